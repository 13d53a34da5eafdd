/- Words for memory that all proofs of this set share: a slice that reads as a list of cells;append and make on rows of the call's own;a block known whole. No program in sight. -/
import Derived.WalkKit
import Derived.WalkLawsBesides
import Derived.Lib.Hide
import Derived.Deep.Draws
import Derived.Maps.AppendAt
import Derived.StillTailTactics
import Derived.Deep.QuietTactic
import Derived.BigQuiet
import Derived.Deep.MidRow
import Derived.Below
set_option linter.unusedSimpArgs false
set_option linter.unusedVariables false
set_option maxRecDepth 100000
set_option maxHeartbeats 16000000
namespace Go.Proofs.YtnnjjbkdjkjnpaaGreatDoor
open Go.RowKit
theorem kp{p:Prop}(h:p):Hid p:=Lib.hid h
end Go.Proofs.YtnnjjbkdjkjnpaaGreatDoor
theorem Go.RowKit.Hid.o {p : Prop} (h : Go.RowKit.Hid p) : p := h
namespace Go.Proofs.YtnnjjbkdjkjnpaaGreatDoor
open Go.RowKit
theorem kq(p:Prop)(h:p):Hid p:=h
theorem xe{α:Sort _}(x:α):∃q,q=x:=⟨_,rfl⟩
theorem bq{P:Program}{f:FuncId}{a:Array Value}{w:World}{Q:Ending→World→Prop}(h:∀w_,Hid (Below w.heap.size w w_)→Calls P f a w_ Q):Calls P f a w Q:=h w (Below.refl _ _)
theorem ret_bool{a b:Bool}(h:a=b):Ending.returned (.bool a)=.returned (.bool b):=by rw[h]
theorem ret_int{k:IntKind}{a b:Int}(h:a=b):Ending.returned (.int k a)=.returned (.int k b):=by rw[h]
theorem bcell{W w1:World}(hb:Below W.heap.size W w1){b o:Nat}{v:Value}(h:W.cell? ⟨b,o,none⟩=some v):w1.cell? ⟨b,o,none⟩=some v:=
 (hb.cell (p:=⟨b,o,none⟩) (World.block_lt_of_cell? W ⟨b,o,none⟩ h)).trans h
theorem set_upto{xs:List Value}{f:Nat→Value}{n k:Nat}(hl:xs.length=n)(hk:k < n)(h:∀i,i < k→xs[i]? = some (f i)):∀i,i < k+1→(xs.set k (f k))[i]? = some (f i):=by
 intro i hi;rw[List.getElem?_set];by_cases e:k=i
 ·subst e;rw[if_pos rfl,if_pos (by omega)]
 ·rw[if_neg e];exact h i (by omega)
theorem eq_of_upto{xs:List Value}{f:Nat→Value}{n:Nat}(hl:xs.length=n)(h:∀i,i < n→xs[i]? = some (f i)):xs=(List.range n).map f:=by
 apply List.ext_getElem?
 intro i;by_cases hi:i < n
 ·rw[h i hi];simp [hi]
 ·rw[List.getElem?_eq_none (by omega),List.getElem?_eq_none (by simp;omega)]
theorem below_chain{a b c:World}(h:Below a.heap.size a b)(k:Below b.heap.size b c):Below a.heap.size a c:=h.trans (k.mono h.size)
theorem below_dn{B:Nat}{a b:World}(h:Below B a b)(n:Nat):Below B a (b.drewN n):=⟨h.os,h.tape,h.output,h.size,h.block⟩
theorem below_step{B:Nat}{a b c:World}(h:Below B a b)(hB:B≤b.heap.size)(k:Below b.heap.size b c):Below B a c:=h.trans (k.mono hB)
def Sl(w:World)(B sz:Nat)(A:Option Addr)(n:Nat)(xs:List Value):Prop:=
 xs.length=n*sz∧(0 < n→∃b off,A=some ⟨b,off,none⟩∧b < B∧∀j u,xs[j]? = some u→w.cell? ⟨b,off+j,none⟩=some u)
section
variable {w w':World} {B B' sz n:Nat} {A:Option Addr} {xs:List Value}
theorem Sl.nil:Sl w B sz A 0 []:=⟨by simp,fun h=>absurd h (by omega)⟩
theorem Sl.len(h:Sl w B 1 A n xs):xs.length=n:=by have:=h.1;omega
theorem Sl.at_{k:Nat}(h:Sl w B 1 A n xs)(hk:k < n):∃b off u,A=some ⟨b,off,none⟩∧b < B∧xs[k]? = some u∧w.cell? ⟨b,off+k,none⟩=some u:=by
 obtain⟨b,off,e,hb,hc⟩:=h.2 (by omega);have hl:k < xs.length:=by have:=h.1;omega
 exact⟨b,off,xs[k],e,hb,List.getElem?_eq_getElem hl,hc k _ (List.getElem?_eq_getElem hl)⟩
theorem Sl.keep(h:Sl w B sz A n xs)(hk:∀p:Addr,p.block < B→w'.cell? p=w.cell? p):Sl w' B sz A n xs:=
 ⟨h.1,fun hn=>by
  obtain⟨b,off,e,hb,hc⟩:=h.2 hn
  exact⟨b,off,e,hb,fun j u hu=>(hk ⟨b,off+j,none⟩ hb).trans (hc j u hu)⟩⟩
theorem Sl.more(h:Sl w B sz A n xs)(hB:B≤B'):Sl w B' sz A n xs:=
 ⟨h.1,fun hn=>by
  obtain⟨b,off,e,hb,hc⟩:=h.2 hn
  exact⟨b,off,e,by omega,hc⟩⟩
theorem Sl.below(h:Sl w B sz A n xs)(hb:Below B w w'):Sl w' B sz A n xs:=h.keep fun _ hp=>hb.cell hp
theorem Sl.alloc(h:Sl w B sz A n xs)(hB:B≤w.heap.size)(o:Obj):Sl (w.alloc o) B sz A n xs:=h.keep fun p hp=>World.cell?_alloc_lt w o p (by omega)
theorem Sl.grown(h:Sl w B sz A n xs){row:Option Nat}(hg:w.grownBy w' row)(hB:B≤w.heap.size)(hr:∀g,row=some g→B≤g):Sl w' B sz A n xs:=
 h.keep fun p hp=>World.cell?_of_block (hg.block p.block (by omega) (fun e=>by have:=hr _ e.symm;omega))
theorem Sl.from_{b off k:Nat}(h:Sl w B 1 (some ⟨b,off,none⟩) n xs)(hk:k≤n):Sl w B 1 (some ⟨b,off+k,none⟩) (n - k) (xs.drop k):=by
 refine⟨by rw[List.length_drop,h.len];omega,fun hn=>?_⟩;obtain⟨b',off',e,hb,hc⟩:=h.2 (by omega);cases e
 exact⟨b,off+k,rfl,hb,fun j u hu=>by rw[Nat.add_assoc];exact hc _ u (by rw[← hu,List.getElem?_drop])⟩
theorem Sl.sub_{b off k m:Nat}(h:Sl w B 1 (some ⟨b,off,none⟩) n xs)(hk:k+m≤n):Sl w B 1 (some ⟨b,off+k,none⟩) m ((xs.drop k).take m):=by
 have h1:=h.from_ (k:=k) (by omega);refine⟨by rw[List.length_take,h1.len];omega,fun hn=>?_⟩;obtain⟨b',off',e,hb,hc⟩:=h1.2 (by omega);cases e
 refine⟨b,off+k,rfl,hb,fun j u hu=>hc _ u ?_⟩;rw[List.getElem?_take]at hu;split at hu
 ·exact hu
 ·cases hu
theorem Sl.of_own{base:Nat}{e:TypeId}{c:Nat}(h:w.ownsRow base e sz (.slice A n c) n xs):Sl w w.heap.size sz A n xs:=by
 refine⟨h.1,fun hn=>?_⟩;rcases h.2 with ⟨hv,h0⟩|⟨g,cap,cur,hv,hbg,hh,hcap,hm,hs,ht⟩
 ·omega
 ·injection hv with hA
  have hlt:=(h.lt g (by rw[hA];rfl)).2;refine⟨g,0,hA,hlt,fun j u hu=>?_⟩;have:=h.cells (g:=g) (by rw[hA];rfl) j u hu
  rwa [Addr.add_lit]at this
theorem Sl.lit(w:World)(cs:Array Value)(t:TypeId)(n:Nat)(h:cs.size=n*sz):Sl (w.alloc (.cells cs t)) (w.heap.size+1) sz (some ⟨w.heap.size,0,none⟩) n cs.toList:=
 ⟨by simpa using h,fun _=>⟨_,_,rfl,by omega,fun j u hu=>by simpa using hu⟩⟩
end
section
variable {w w':World} {base:Nat} {e:TypeId} {sz n c:Nat} {A:Option Addr} {xs:List Value}
theorem own_form(h:w.ownsRow base e sz (.slice A n c) n xs)(hn:0 < n):∃g,A=some ⟨g,0,none⟩∧base≤g∧g < w.heap.size∧n≤c:=by
 rcases h.2 with ⟨_,h0⟩|⟨g,cap,cur,hv,hbg,hh,hcap,_⟩
 ·omega
 ·injection hv with hA _ hc
  exact⟨g,hA,hbg,(h.lt g (by rw[hA];rfl)).2,by omega⟩
theorem own_cell{g j:Nat}(h:w.ownsRow base e sz (.slice (some ⟨g,0,none⟩) n c) n xs)(hj:j < n*sz):∃u,w.cell? ⟨g,j,none⟩=some u:=by
 have h1:=h.cellAt j hj;have h2:=h.1;rw[List.getElem?_eq_getElem (by omega)]at h1;exact⟨_,h1⟩
theorem own_below(h:w.ownsRow base e sz (.slice A n c) n xs)(hb:Below w.heap.size w w'):w'.ownsRow base e sz (.slice A n c) n xs:=by
 obtain⟨h1,h2⟩:=h;refine⟨h1,?_⟩;rcases h2 with h2|⟨g,cap,cur,hv,hg,hh,r⟩
 ·exact .inl h2
 ·refine .inr ⟨g,cap,cur,hv,hg,?_,r⟩;rw[hb.block g ?_];exact hh;rcases Nat.lt_or_ge g w.heap.size with hlt|hge
  ·exact hlt
  ·rw[Array.getElem?_eq_none hge]at hh;cases hh
theorem own_base{base':Nat}(h:w.ownsRow base e sz (.slice A n c) n xs)(hle:base'≤base):w.ownsRow base' e sz (.slice A n c) n xs:=by
 obtain⟨h1,h2⟩:=h;refine⟨h1,?_⟩;rcases h2 with h2|⟨g,cap,cur,hv,hg,r⟩
 ·exact .inl h2
 ·exact .inr ⟨g,cap,cur,hv,by omega,r⟩
theorem own_alloc(h:w.ownsRow base e sz (.slice A n c) n xs)(o:Obj):(w.alloc o).ownsRow base e sz (.slice A n c) n xs:=h.alloc o
theorem own_kept{row:Option Nat}(h:w.ownsRow base e sz (.slice A n c) n xs)(hg:w.grownBy w' row)(hne:∀g,A=some ⟨g,0,none⟩→some g≠row):w'.ownsRow base e sz (.slice A n c) n xs:=by
 refine h.kept hg ?_;rcases h.2 with ⟨hv,_⟩|⟨g,cap,cur,hv,_⟩
 ·injection hv with hA;subst hA;exact .inl rfl
 ·injection hv with hA;subst hA;exact .inr (hne g rfl)
theorem own_slice{v:Value}(h:w.ownsRow base e sz v n xs):∃A c,v=.slice A n c:=by
 rcases h.2 with ⟨rfl,rfl⟩|⟨g,cap,cur,rfl,_⟩
 ·exact⟨_,_,rfl⟩
 ·exact⟨_,_,rfl⟩
end
section
variable {P:Program} (w:World)
theorem run_app_none (base : Nat) (t ty e : TypeId) (i : TypeInfo) (sz : Nat) (ht : P.underlying t = some (.slice e)) (hi : P.info? e = some i)
  (v:Value) (n:Nat) (xs:List Value) (hown:w.ownsRow base e sz v n xs) (c:Nat):(Builtin.append_ #[t,t] ty #[v,.slice none 0 c]).run P w=.ok v w:=by
 rcases hown.2 with ⟨rfl,rfl⟩|⟨g,cap,cur,rfl,_,_,hnc,_⟩
 ·simp [Builtin.append_,run_underlying ht,sizeOf,typeInfo,hi,Builtin.lenOf,Builtin.firstCells]
 ·simp [Builtin.append_,run_underlying ht,sizeOf,typeInfo,hi,Builtin.lenOf,Builtin.firstCells,hnc,storeCells]
theorem run_app (base : Nat) (t ty e : TypeId) (i : TypeInfo) (z : Value) (sz bytes : Nat) (ht : P.underlying t = some (.slice e)) (hi : P.info? e = some i) (hz : i.zero = some z)
  (hsize:i.size=sz) (hby:i.bytes=bytes) (hzs:z.cells.size=sz) (hsz:0 < sz)
  (A:Option Addr) (n c:Nat) (xs:List Value) (hown:w.ownsRow base e sz (.slice A n c) n xs)
  (B:Nat) (A2:Option Addr) (m c2:Nat) (news:List Value) (hr:Sl w B sz A2 m news) (h1:∀u∈news,u.oneCell'=true)
  (h63:n+m≤maxLen) (hbytes:(n+m)*bytes≤140737488355328) (hbase:base≤w.heap.size) :
  ∃A' c' w',(Builtin.append_ #[t,t] ty #[.slice A n c,.slice A2 m c2]).run P w=.ok (.slice A' (n+m) c') w'∧w'.ownsRow base e sz (.slice A' (n+m) c') (n+m) (xs++news)∧w.grownBy w' (A.map Addr.block) ∧
   (A'.map Addr.block=A.map Addr.block∨A'.map Addr.block=some w.heap.size):=by
 have hob:∀(A:Option Addr) n c,(Value.slice A n c).ownBlock=A.map Addr.block:=fun A n c=>by cases A <;> rfl
 rcases Nat.eq_zero_or_pos m with h0|h0
 ·subst h0;have hn:news=[]:=List.eq_nil_of_length_eq_zero (by simpa using hr.1);subst hn;rcases A2 with _|ad
  ·exact⟨A,c,w,by simpa using run_app_none (P:=P) w base t ty e i sz ht hi _ n xs hown c2,by simpa using hown,World.grownBy.refl w _,.inl rfl⟩
  ·obtain⟨v',w',hrun,h2,h3,_,h5⟩:=run_append_own_at (P:=P) w base t ty e i z sz bytes ht hi hz hsize hby hzs hsz _ n xs hown ad 0 c2 [] (by simp) (by simp) (by simp) h63 hbytes hbase;obtain⟨A',c',rfl⟩:=own_slice h2;simp only [hob]at h3 h5;exact⟨A',c',w',hrun,h2,h3,h5⟩
 ·obtain⟨b,off,rfl,_,hc⟩:=hr.2 h0;obtain⟨v',w',hrun,h2,h3,_,h5⟩:=run_append_own_at (P:=P) w base t ty e i z sz bytes ht hi hz hsize hby hzs hsz _ n xs hown ⟨b,off,none⟩ m c2 news hr.1 (fun j u hu=>by rw[Addr.add_lit];exact hc j u hu) h1 h63 hbytes hbase;obtain⟨A',c',rfl⟩:=own_slice h2;simp only [hob]at h3 h5;exact⟨A',c',w',hrun,h2,h3,h5⟩
theorem wp_app {o : Oper} {a : Act} {K : Act → World → Prop} {Q : Exit → Act → World → Prop} (s x : Operand) (t : TypeId)
  (ho:o.op=.call { callee:=.builtin .append,args:=#[s,x],argTypes:=#[t,t] })
  (base:Nat) (e:TypeId) (i:TypeInfo) (z:Value) (sz bytes:Nat) (ht:P.underlying t=some (.slice e)) (hi:P.info? e=some i) (hz:i.zero=some z)
  (hsize:i.size=sz) (hby:i.bytes=bytes) (hzs:z.cells.size=sz) (hsz:0 < sz)
  (A:Option Addr) (n c:Nat) (xs:List Value) (hs:a.eval s=.slice A n c) (hown:w.ownsRow base e sz (.slice A n c) n xs)
  (B:Nat) (A2:Option Addr) (m c2:Nat) (news:List Value) (hx:a.eval x=.slice A2 m c2) (hr:Sl w B sz A2 m news) (h1:∀u∈news,u.oneCell'=true)
  (h63:n+m≤maxLen) (hbytes:(n+m)*bytes≤140737488355328) (hbase:base≤w.heap.size)
  (h:∀A' c' w',w'.ownsRow base e sz (.slice A' (n+m) c') (n+m) (xs++news)→w.grownBy w' (A.map Addr.block)→(A'.map Addr.block=A.map Addr.block∨A'.map Addr.block=some w.heap.size)→K (a.put o.dst (.slice A' (n+m) c')) w'):o.wp P a w K Q:=by
 obtain⟨A',c',w',hrun,h2,h3,h4⟩:=run_app (P:=P) w base t o.type e i z sz bytes ht hi hz hsize hby hzs hsz A n c xs hown B A2 m c2 news hr h1 h63 hbytes hbase;unfold Oper.wp execOp;simp only [ho,resolve,invoke,builtin,Sem.run_bind,Sem.run_pure,Result.andThen_ok,List.map_toArray,List.map_cons,List.map_nil,hs,hx,hrun];exact h A' c' w' h2 h3 h4
theorem wpl_app {ops : Array Oper} {rest : List Oper} {o : Oper} {a : Act} {Q : Exit → Act → World → Prop} (hgd : o.guard = none) (s x : Operand) (t : TypeId)
  (ho:o.op=.call { callee:=.builtin .append,args:=#[s,x],argTypes:=#[t,t] })
  (base:Nat) (e:TypeId) (i:TypeInfo) (z:Value) (sz bytes:Nat) (ht:P.underlying t=some (.slice e)) (hi:P.info? e=some i) (hz:i.zero=some z)
  (hsize:i.size=sz) (hby:i.bytes=bytes) (hzs:z.cells.size=sz) (hsz:0 < sz)
  (A:Option Addr) (n c:Nat) (xs:List Value) (hs:a.eval s=.slice A n c) (hown:w.ownsRow base e sz (.slice A n c) n xs)
  (B:Nat) (A2:Option Addr) (m c2:Nat) (news:List Value) (hx:a.eval x=.slice A2 m c2) (hr:Sl w B sz A2 m news) (h1:∀u∈news,u.oneCell'=true)
  (h63:n+m≤maxLen) (hbytes:(n+m)*bytes≤140737488355328) (hbase:base≤w.heap.size)
  (h:∀A' c' w',w'.ownsRow base e sz (.slice A' (n+m) c') (n+m) (xs++news)→w.grownBy w' (A.map Addr.block)→(A'.map Addr.block=A.map Addr.block∨A'.map Addr.block=some w.heap.size)→wpList P ops Q rest (a.put o.dst (.slice A' (n+m) c')) w'):wpList P ops Q (o::rest) a w:=
 wpList_plain hgd fun _ hK=>wp_app w s x t ho base e i z sz bytes ht hi hz hsize hby hzs hsz A n c xs hs hown B A2 m c2 news hx hr h1 h63 hbytes hbase fun A' c' w' h2 h3 h4=>hK _ _ (h A' c' w' h2 h3 h4)
end
def Blk(w:World)(g:Nat)(t:TypeId)(cs:List Value):Prop:=w.heap[g]? = some (.cells cs.toArray t (0,0))
section
variable {w w':World} {g:Nat} {t:TypeId} {cs:List Value}
theorem Blk.lt(h:Blk w g t cs):g < w.heap.size:=by
 rcases Nat.lt_or_ge g w.heap.size with hlt|hge
 ·exact hlt
 ·unfold Blk at h;rw[Array.getElem?_eq_none hge]at h;cases h
theorem Blk.cell(h:Blk w g t cs)(i:Nat):w.cell? ⟨g,i,none⟩=cs[i]?:=by
 rw[cell_of_row w g i _ t (0,0) h];simp
theorem Blk.at_(h:Blk w g t cs){i:Nat}{v:Value}(hv:cs[i]? = some v):w.cell? ⟨g,i,none⟩=some v:=(h.cell i).trans hv
theorem Blk.frozen(h:Blk w g t cs)(i:Nat):w.frozen? ⟨g,i,none⟩=false:=frozen_of_row w g i _ t h
theorem Blk.drewN(h:Blk w g t cs)(n:Nat):Blk (w.drewN n) g t cs:=h
theorem Blk.alloc(h:Blk w g t cs)(o:Obj):Blk (w.alloc o) g t cs:=(Below.heap_alloc w o g h.lt).trans h
theorem Blk.set_(h:Blk w g t cs)(i:Nat)(u:Value):Blk (w.setCell ⟨g,i,none⟩ u) g t (cs.set i u):=by
 have:=heap_setCell_same w g i cs.toArray t u h;unfold Blk;rw[this];simp
theorem Blk.far(h:Blk w g t cs){p:Addr}(hp:g≠p.block)(u:Value):Blk (w.setCell p u) g t cs:=(Below.heap_setCell w p u g hp).trans h
theorem Blk.below{B:Nat}(h:Blk w g t cs)(hb:Below B w w')(hg:g < B):Blk w' g t cs:=(hb.block g hg).trans h
theorem Blk.call(h:Blk w g t cs)(hb:Below w.heap.size w w'):Blk w' g t cs:=h.below hb h.lt
theorem Blk.grown{row:Option Nat}(h:Blk w g t cs)(hb:w.grownBy w' row)(hg:some g≠row):Blk w' g t cs:=(hb.block g h.lt hg).trans h
theorem Blk.sl{sz n:Nat}(h:Blk w g t cs)(hn:cs.length=n*sz):Sl w w.heap.size sz (some ⟨g,0,none⟩) n cs:=
 ⟨hn,fun _=>⟨g,0,rfl,h.lt,fun j u hu=>by rw[Nat.zero_add];exact h.at_ hu⟩⟩
end
theorem grown_set(w:World)(g i:Nat)(v:Value):w.grownBy (w.setCell ⟨g,i,none⟩ v) (some g):=
 ⟨rfl,rfl,rfl,by simp [World.setCell],fun k _ hk=>Below.heap_setCell w _ v k (fun e=>hk (by simp [e]))⟩
theorem grown_trans{w w2 w3:World}{row:Option Nat}(h:w.grownBy w2 row)(k:w2.grownBy w3 row):w.grownBy w3 row:=
 ⟨k.os.trans h.os,k.tape.trans h.tape,k.output.trans h.output,Nat.le_trans h.size k.size,fun i hi hne=>(k.block i (Nat.lt_of_lt_of_le hi h.size) hne).trans (h.block i hi hne)⟩
theorem blk_set8 {w : World} {g : Nat} {t : TypeId} {a0 a1 a2 a3 a4 a5 a6 a7 b0 b1 b2 b3 b4 b5 b6 b7 : Value} (h : Blk w g t [a0, a1, a2, a3, a4, a5, a6, a7]) :
  Blk ((((((((w.setCell ⟨g,0,none⟩ b0).setCell ⟨g,1,none⟩ b1).setCell ⟨g,2,none⟩ b2).setCell ⟨g,3,none⟩ b3).setCell ⟨g,4,none⟩ b4).setCell ⟨g,5,none⟩ b5).setCell ⟨g,6,none⟩ b6).setCell ⟨g,7,none⟩ b7) g t [b0,b1,b2,b3,b4,b5,b6,b7]:=
 (((((((h.set_ 0 b0).set_ 1 b1).set_ 2 b2).set_ 3 b3).set_ 4 b4).set_ 5 b5).set_ 6 b6).set_ 7 b7
theorem grown_set8 (w : World) (g : Nat) (b0 b1 b2 b3 b4 b5 b6 b7 : Value) :
  w.grownBy ((((((((w.setCell ⟨g,0,none⟩ b0).setCell ⟨g,1,none⟩ b1).setCell ⟨g,2,none⟩ b2).setCell ⟨g,3,none⟩ b3).setCell ⟨g,4,none⟩ b4).setCell ⟨g,5,none⟩ b5).setCell ⟨g,6,none⟩ b6).setCell ⟨g,7,none⟩ b7) (some g):=
 grown_trans (grown_trans (grown_trans (grown_trans (grown_trans (grown_trans (grown_trans (grown_set _ _ _ _) (grown_set _ _ _ _)) (grown_set _ _ _ _)) (grown_set _ _ _ _)) (grown_set _ _ _ _)) (grown_set _ _ _ _)) (grown_set _ _ _ _)) (grown_set _ _ _ _)
def Drawn(w w2:World):Prop:=∃n,w2=w.drewN n
section
variable {w w2 w3:World}
theorem Drawn.refl(w:World):Drawn w w:=⟨0,rfl⟩
theorem Drawn.n(w:World)(n:Nat):Drawn w (w.drewN n):=⟨n,rfl⟩
theorem Drawn.one(w:World):Drawn w w.drew:=⟨1,rfl⟩
theorem Drawn.trans(h:Drawn w w2)(k:Drawn w2 w3):Drawn w w3:=by
 obtain⟨n,rfl⟩:=h;obtain⟨m,rfl⟩:=k;exact⟨n+m,by rw[World.drewN_drewN]⟩
theorem Drawn.blk{g:Nat}{t:TypeId}{cs:List Value}(h:Drawn w w2)(hb:Blk w g t cs):Blk w2 g t cs:=by obtain⟨n,rfl⟩:=h;exact hb
theorem Drawn.below{B:Nat}{w0:World}(h:Drawn w w2)(hb:Below B w0 w):Below B w0 w2:=by obtain⟨n,rfl⟩:=h;exact below_dn hb n
theorem Drawn.all(h:Drawn w w2):Below w.heap.size w w2:=h.below (Below.refl _ _)
theorem Drawn.cell(h:Drawn w w2)(a:Addr):w2.cell? a=w.cell? a:=by obtain⟨n,rfl⟩:=h;rfl
theorem Drawn.sl{B sz n:Nat}{A:Option Addr}{xs:List Value}(h:Drawn w w2)(hs:Sl w B sz A n xs):Sl w2 B sz A n xs:=by obtain⟨m,rfl⟩:=h;exact hs
theorem Drawn.own{base:Nat}{e:TypeId}{sz n:Nat}{v:Value}{xs:List Value}(h:Drawn w w2)(hs:w.ownsRow base e sz v n xs):w2.ownsRow base e sz v n xs:=by obtain⟨m,rfl⟩:=h;exact hs
theorem Drawn.size(h:Drawn w w2):w2.heap.size=w.heap.size:=by obtain⟨m,rfl⟩:=h;rfl
end
theorem grown_undrew{w w2:World}{n:Nat}{row:Option Nat}(h:(w.drewN n).grownBy w2 row):w.grownBy w2 row:=⟨h.os,h.tape,h.output,h.size,h.block⟩
theorem wp_tail {P : Program} {id : Nat} {Q : Exit → Act → World → Prop} {a : Act} {w : World} {l : List Oper} (n : Nat) (hm : P.follows .mixedOrders = true) (hB : Region.lexTailB .any l.toArray n = true)
  (h:∀w2,Drawn w w2→wpStill P l.toArray w2 (fun a'=>wpList P l.toArray Q (l.drop n) a' w2) (l.take n) a):(Code.region id l.toArray true).wp P Q a w:=
 wp_region_still_tail n hm hB (h _ ⟨1,rfl⟩)
def NormalOnly(Q:Exit→Act→World→Prop):Exit→Act→World→Prop
 | .normal,a,w=>Q .normal a w
 | _,_,_=>False
theorem wp_normal{P:Program}{c:Code}{Q:Exit→Act→World→Prop}{a:Act}{w:World}(h:c.wp P (NormalOnly Q) a w):c.wp P Q a w:=
 Code.wp_mono (fun e a w h=>by cases e <;> first|exact h|exact h.elim) h
section
variable {P:Program} {w:World} {ops:Array Oper} {rest:List Oper} {o:Oper} {a:Act} {Q:Exit→Act→World→Prop}
theorem wpl_alloc (hgd : o.guard = none) {T : TypeId} (ho : o.op = .alloc T) {zs : List Value} (hz : (P.info? T).map (·.zero) = some (some (.agg zs.toArray)))
  (h:∀w',Blk w' w.heap.size T zs→Below w.heap.size w w'→w'.heap.size=w.heap.size+1→wpList P ops Q rest (a.put o.dst (.pointer (some ⟨w.heap.size,0,none⟩))) w'):wpList P ops Q (o::rest) a w:=by
 refine wpList_plain hgd fun K hK=>?_
 obtain⟨i,hi,hzz⟩:=Option.map_eq_some_iff.1 hz
 have hrun:(Instr.alloc T true (.tuple #[])).run P w=.ok (.pointer (some ⟨w.heap.size,0,none⟩)) (w.alloc (.cells zs.toArray T)):=by
  simp [Instr.alloc,zeroValue,typeInfo,hi,hzz,newVar,newRow,Value.cells]
 unfold Oper.wp execOp;simp only [ho,Sem.run_bind,hrun,Result.andThen_ok,Sem.run_pure];exact hK _ _ (h _ (heap_alloc_new _ _) ((Below.refl _ _).alloc (Nat.le_refl _) _) (by simp))
theorem wal{P:Program}{ops:Array Oper}{rest:List Oper}{a:Act}{w:World}{Q:Exit→Act→World→Prop}{ty:TypeId}{ps:String}{af:Array Edge}(s:Nat){T:TypeId}{zs:List Value}(hz:(P.info? T).map (·.zero)=some (some (.agg zs.toArray)))(h:∀w',Blk w' w.heap.size T zs→Below w.heap.size w w'→w'.heap.size=w.heap.size+1→wpList P ops Q rest (a.put (some s) (.pointer (some ⟨w.heap.size,0,none⟩))) w'):wpList P ops Q (⟨some s,.alloc T,ty,ps,af,none⟩::rest) a w:=wpl_alloc rfl rfl hz h
theorem wpl_box (hgd : o.guard = none) {T : TypeId} {x : Operand} (ho : o.op = .box T x) {cs : List Value} (hx : a.eval x = .agg cs.toArray)
  (h:∀w',Blk w' w.heap.size T cs→Below w.heap.size w w'→w'.heap.size=w.heap.size+1→wpList P ops Q rest (a.put o.dst (.pointer (some ⟨w.heap.size,0,none⟩))) w'):wpList P ops Q (o::rest) a w:=by
 refine wpList_plain hgd fun K hK=>?_
 have hrun:(Instr.box T (.agg cs.toArray)).run P w=.ok (.pointer (some ⟨w.heap.size,0,none⟩)) (w.alloc (.cells cs.toArray T)):=by
  simp [Instr.box,newVar,newRow,Value.cells]
 unfold Oper.wp execOp;simp only [ho,hx,Sem.run_bind,hrun,Result.andThen_ok,Sem.run_pure];exact hK _ _ (h _ (heap_alloc_new _ _) ((Below.refl _ _).alloc (Nat.le_refl _) _) (by simp))
theorem wbx{P:Program}{ops:Array Oper}{rest:List Oper}{a:Act}{w:World}{Q:Exit→Act→World→Prop}{ty:TypeId}{ps:String}{af:Array Edge}(s:Nat){T:TypeId}{x:Operand}{cs:List Value}(h:∀w',Blk w' w.heap.size T cs→Below w.heap.size w w'→w'.heap.size=w.heap.size+1→wpList P ops Q rest (a.put (some s) (.pointer (some ⟨w.heap.size,0,none⟩))) w')(hx:a.eval x=.agg cs.toArray:=by with_unfolding_all exact rfl):wpList P ops Q (⟨some s,.box T x,ty,ps,af,none⟩::rest) a w:=wpl_box rfl rfl hx h
def RowT(P:Program)(T:TypeId)(n:Nat):Prop:=∃d,P.underlying T=some d∧(match d with|.struct _|.array _ _=>true|_=>false)=true∧(P.info? T).map (·.size)=some n
theorem wpl_loadb (hgd : o.guard = none) {T : TypeId} {x : Operand} (ho : o.op = .load T x) {n : Nat} (hT : RowT P T n) {g : Nat} {t : TypeId} {cs : List Value} (hb : Blk w g t cs) (hx : a.eval x = .pointer (some ⟨g, 0, none⟩)) (hn : cs.length = n)
  (h:wpList P ops Q rest (a.put o.dst (.agg cs.toArray)) w):wpList P ops Q (o::rest) a w:=by
 obtain⟨d,hu,hd,hi⟩:=hT;exact wpList_load_row hgd T x ho g hx t _ (0,0) d hb hu (by revert hd;cases d <;> simp) (by rw[hi];simp [hn]) h
theorem wlb{P:Program}{ops:Array Oper}{rest:List Oper}{a:Act}{w:World}{Q:Exit→Act→World→Prop}{ty:TypeId}{ps:String}{af:Array Edge}(s:Nat){T:TypeId}{x:Operand}{n:Nat}(hT:RowT P T n){g:Nat}{t:TypeId}{cs:List Value}(hb:Blk w g t cs)(hn:cs.length=n)(h:wpList P ops Q rest (a.put (some s) (.agg cs.toArray)) w)(hx:a.eval x=.pointer (some ⟨g,0,none⟩):=by with_unfolding_all exact rfl):wpList P ops Q (⟨some s,.load T x,ty,ps,af,none⟩::rest) a w:=wpl_loadb rfl rfl hT hb hx hn h
theorem wpl_loadm (hgd : o.guard = none) {T : TypeId} {x : Operand} (ho : o.op = .load T x) {n : Nat} (hT : RowT P T n) {b off : Nat} {cs : List Value} (hc : ∀ j u, cs[j]? = some u → w.cell? ⟨b, off + j, none⟩ = some u) (hx : a.eval x = .pointer (some ⟨b, off, none⟩)) (hn : cs.length = n)
  (h:wpList P ops Q rest (a.put o.dst (.agg cs.toArray)) w):wpList P ops Q (o::rest) a w:=by
 obtain⟨d,hu,hd,hi⟩:=hT;exact wpList_load_mid hgd T x ho b off hx cs d hc hu (by cases d <;> simp_all) (by rw[hi,hn]) h
theorem wlm{P:Program}{ops:Array Oper}{rest:List Oper}{a:Act}{w:World}{Q:Exit→Act→World→Prop}{ty:TypeId}{ps:String}{af:Array Edge}(s:Nat){T:TypeId}{x:Operand}{n:Nat}(hT:RowT P T n){b off:Nat}{cs:List Value}(hc:∀j u,cs[j]? = some u→w.cell? ⟨b,off+j,none⟩=some u)(hn:cs.length=n)(h:wpList P ops Q rest (a.put (some s) (.agg cs.toArray)) w)(hx:a.eval x=.pointer (some ⟨b,off,none⟩):=by with_unfolding_all exact rfl):wpList P ops Q (⟨some s,.load T x,ty,ps,af,none⟩::rest) a w:=wpl_loadm rfl rfl hT hc hx hn h
theorem run_storeb {g : Nat} {T t : TypeId} {n : Nat} (hT : RowT P T n) {old cs : List Value} (hb : Blk w g t old) (ho : old.length = n) (hn : cs.length = n) (h1 : ∀ u ∈ cs, u.oneCell' = true) :
  (Instr.storeAt T (.pointer (some ⟨g,0,none⟩)) (.agg cs.toArray)).run P w=.ok () (w.setRow g cs.toArray):=by
 obtain⟨d,hu,hd,hi⟩:=hT;have:=run_storeVar_row (P:=P) w g t T old.toArray cs.toArray hb (by rw[hi];simp [hn]) (by simp [ho,hn]) (Array.all_eq_true_iff_forall_mem.2 (fun v hv=>h1 v (by simpa using hv)));simp only [Instr.storeAt,Instr.sureAddr,Sem.run_bind,Sem.run_pure,Result.andThen_ok,this]
theorem wpl_storeb (hgd : o.guard = none) {T : TypeId} {x y : Operand} (ho : o.op = .store T x y) {n : Nat} (hT : RowT P T n) {g : Nat} {t : TypeId} {old cs : List Value} (hb : Blk w g t old) (hx : a.eval x = .pointer (some ⟨g, 0, none⟩)) (hy : a.eval y = .agg cs.toArray)
  (hol:old.length=n) (hn:cs.length=n) (h1:∀u∈cs,u.oneCell'=true)
  (h:∀w',Blk w' g t cs→w.grownBy w' (some g)→w'.heap.size=w.heap.size→wpList P ops Q rest (a.put o.dst undef) w'):wpList P ops Q (o::rest) a w:=by
 refine wpList_plain hgd fun K hK=>?_
 unfold Oper.wp execOp;simp only [ho,hx,hy,Sem.run_bind,run_storeb hT hb hol hn h1,Result.andThen_ok,Sem.run_pure];refine hK _ _ (h _ (setRow_heap w g _ _ t _ hb) ⟨rfl,rfl,rfl,by simp,fun k _ hk=>setRow_other w g k _ (fun e=>hk (by simp [e]))⟩ (by simp))
theorem wsb{P:Program}{ops:Array Oper}{rest:List Oper}{a:Act}{w:World}{Q:Exit→Act→World→Prop}{ty:TypeId}{ps:String}{af:Array Edge}{T:TypeId}{x y:Operand}{n:Nat}(hT:RowT P T n){g:Nat}{t:TypeId}{old cs:List Value}(hb:Blk w g t old)(hol:old.length=n)(hn:cs.length=n)(h1:∀u∈cs,u.oneCell'=true)(h:∀w',Blk w' g t cs→w.grownBy w' (some g)→w'.heap.size=w.heap.size→wpList P ops Q rest (a.put none undef) w')(hx:a.eval x=.pointer (some ⟨g,0,none⟩):=by with_unfolding_all exact rfl)(hy:a.eval y=.agg cs.toArray:=by with_unfolding_all exact rfl):wpList P ops Q (⟨none,.store T x y,ty,ps,af,none⟩::rest) a w:=wpl_storeb rfl rfl hT hb hx hy hol hn h1 h
theorem run_index_agg {T e : TypeId} {n : Nat} {cs : List Value} {v : Value} {k : Nat} (hu : P.underlying T = some (.array n e)) (hn : cs.length = n) (he : (P.info? e).map (·.size) = some 1) (hne : (match P.underlying e with | some (.struct _) | some (.array _ _) => false | some _ => true | none => false) = true) (hv : cs[k]? = some v) (w : World) :
  (Instr.index T (.agg cs.toArray) (.int .i64 (k:Int))).run P w=.ok v w:=by
 have hk:k < n:=by rw[← hn];exact(List.getElem?_eq_some_iff.1 hv).1
 obtain⟨i,hi,hs⟩:=Option.map_eq_some_iff.1 he
 have hagg:(isAgg e).run P w=.ok false w:=by
  unfold isAgg;cases hd:P.underlying e with
  | none=>rw[hd]at hne;simp at hne
  | some d =>
   rw[hd]at hne;rw[Sem.run_bind,run_underlying hd w];cases d <;> simp_all
 simp [Instr.index,asIntOf,run_underlying hu,hk,sizeOf,typeInfo,hi,hs,part,Sem.run_bind,hagg,hv]
theorem ret_cell {fn : Func} {p : Tmp} {ty : TypeId} (h : fn.results = #[.cell p ty]) {n : Nat} (hT : RowT P ty n) {g : Nat} {t : TypeId} {cs : List Value} (hb : Blk w g t cs) (hp : a.tmps.getD p undef = .pointer (some ⟨g, 0, none⟩)) (hn : cs.length = n) (hd : a.defers = [])
  {R:Ending→World→Prop} (hR:R (.returned (.agg cs.toArray)) w):bodyPost P fn R .ret a w:=by
 obtain⟨d,hu,hdd,hi⟩:=hT;exact bodyPost_ret (results_cell_row h a.tmps w g t _ (0,0) d hp hb hu (by revert hdd;cases d <;> simp) (by rw[hi];simp [hn])) hd hR
end
theorem grown_of_below{w w':World}(h:Below w.heap.size w w')(row:Option Nat):w.grownBy w' row:=⟨h.os,h.tape,h.output,h.size,fun k hk _=>h.block k hk⟩
structure ElemT (P:Program) (t e:TypeId) (sz bytes:Nat):Prop where
 ht:P.underlying t=some (.slice e)
 hi:∃i z,P.info? e=some i∧i.zero=some z∧i.size=sz∧i.bytes=bytes∧z.cells.size=sz∧0 < sz
theorem elemT {P : Program} {t e : TypeId} {z : Value} {sz bytes : Nat} (ht : P.underlying t = some (.slice e))
  (h:(P.info? e).map (fun i=>(i.zero,i.size,i.bytes))=some (some z,sz,bytes)) (hz:z.cells.size=sz) (h0:0 < sz):ElemT P t e sz bytes:=by
 obtain⟨i,hi,h1,h2,h3⟩:=info_parts h;exact⟨ht,i,z,hi,h1,h2,h3,hz,h0⟩
theorem wpl_apps {P : Program} {w : World} {ops : Array Oper} {rest : List Oper} {o : Oper} {a : Act} {Q : Exit → Act → World → Prop} (hgd : o.guard = none) {s x : Operand} {t : TypeId}
  (ho:o.op=.call { callee:=.builtin .append,args:=#[s,x],argTypes:=#[t,t] })
  {base:Nat} {e:TypeId} {sz bytes:Nat} (HE:ElemT P t e sz bytes)
  {A:Option Addr} {n c:Nat} {xs:List Value} (hown:w.ownsRow base e sz (.slice A n c) n xs) (hs:a.eval s=.slice A n c)
  {B:Nat} {A2:Option Addr} {m c2:Nat} {news:List Value} (hr:Sl w B sz A2 m news) (hx:a.eval x=.slice A2 m c2) (h1:∀u∈news,u.oneCell'=true)
  (h63:(n+m)*bytes≤140737488355328) (hmx:n+m≤140737488355328) (hbase:base≤w.heap.size)
  (h:∀A' c' w',w'.ownsRow base e sz (.slice A' (n+m) c') (n+m) (xs++news)→w.grownBy w' (A.map Addr.block)→(A'.map Addr.block=A.map Addr.block∨A'.map Addr.block=some w.heap.size)→wpList P ops Q rest (a.put o.dst (.slice A' (n+m) c')) w'):wpList P ops Q (o::rest) a w:=by
 obtain⟨i,z,hi,hz,hsz,hby,hzs,h0⟩:=HE.hi;exact wpl_app w hgd s x t ho base e i z sz bytes HE.ht hi hz hsz hby hzs h0 A n c xs hs hown B A2 m c2 news hx hr h1 (by simp only [maxLen];omega) h63 hbase h
theorem wpl_app1 {P : Program} {w : World} {ops : Array Oper} {rest : List Oper} {o : Oper} {a : Act} {Q : Exit → Act → World → Prop} (hgd : o.guard = none) {s x : Operand} {t : TypeId}
  (ho:o.op=.call { callee:=.builtin .append,args:=#[s,x],argTypes:=#[t,t] })
  {base:Nat} {e:TypeId} {sz bytes:Nat} (HE:ElemT P t e sz bytes)
  {A:Option Addr} {n c:Nat} {xs:List Value} (hown:w.ownsRow base e sz (.slice A n c) n xs) (hs:a.eval s=.slice A n c)
  {m:Nat} {cs:Array Value} (hx:a.eval x=.slice (some ⟨w.heap.size,0,none⟩) m m) (hcs:cs.size=m*sz) (h1:∀u∈cs.toList,u.oneCell'=true)
  (h63:(n+m)*bytes≤140737488355328) (hmx:n+m≤140737488355328) (hbase:base≤w.heap.size)
  (h:∀A' c' w',w'.ownsRow base e sz (.slice A' (n+m) c') (n+m) (xs++cs.toList)→w.grownBy w' (A.map Addr.block)→(A'.map Addr.block=A.map Addr.block∨A'.map Addr.block=some (w.heap.size+1))→wpList P ops Q rest (a.put o.dst (.slice A' (n+m) c')) w'):wpList P ops Q (o::rest) a (w.alloc (.cells cs e)):=by
 refine wpl_apps hgd ho HE (own_alloc hown (.cells cs e)) hs (Sl.lit w cs e m hcs) hx h1 h63 hmx (by simp;omega) fun A' c' w' h2 h3 h4=>h A' c' w' h2 ?_ ?_
 ·have hz:(w.alloc (.cells cs e)).heap.size=w.heap.size+1:=by simp
  exact⟨h3.os,h3.tape,h3.output,by have:=h3.size;omega,fun k hk hne=>(h3.block k (by omega) hne).trans (Below.heap_alloc w _ k hk)⟩
 ·simpa using h4
theorem wpl_make {P : Program} {w : World} {ops : Array Oper} {rest : List Oper} {o : Oper} {a : Act} {Q : Exit → Act → World → Prop} (hgd : o.guard = none) {l c : Operand} {t : TypeId} (ho : o.op = Op.makeSlice t l c)
  (base:Nat) {e:TypeId} {sz bytes:Nat} (HE:ElemT P t e sz bytes) {kl kc:IntKind} {n:Nat} (hl:a.eval l=.int kl n) (hc:a.eval c=.int kc n)
  (h63:bytes*n≤281474976710656) (hmx:n≤281474976710656) (hbase:base≤w.heap.size)
  (h:∀w' xs,w'.ownsRow base e sz (.slice (some ⟨w.heap.size,0,none⟩) n n) n xs→w.grownBy w' none→wpList P ops Q rest (a.put o.dst (.slice (some ⟨w.heap.size,0,none⟩) n n)) w'):wpList P ops Q (o::rest) a w:=by
 obtain⟨i,z,hi,hz,hsz,hby,hzs,h0⟩:=HE.hi;exact wpList_make_full w hgd l c t ho base e i z sz HE.ht hi hz hsz kl kc n n n hl hc rfl rfl (by rw[hby];exact h63) (by simp only [maxLen];omega) hbase fun w' h1 h2=>h w' _ h1 h2
theorem below_grown{B:Nat}{w0 w w':World}{A:Option Addr}(h:Below B w0 w)(hg:w.grownBy w' (A.map Addr.block))(hB:B≤w.heap.size)(hr:∀g,A.map Addr.block=some g→B≤g):Below B w0 w':=
 h.grown hg hB hr
theorem own_from{w:World}{base:Nat}{e:TypeId}{sz n c:Nat}{A:Option Addr}{xs:List Value}(h:w.ownsRow base e sz (.slice A n c) n xs):∀g,A.map Addr.block=some g→base≤g:=by
 rcases h.2 with ⟨hv,_⟩|⟨g,cap,cur,hv,hb,_⟩
 ·injection hv with hA;subst hA;intro g hg;cases hg
 ·injection hv with hA;subst hA;intro g' hg;cases hg;exact hb
end Go.Proofs.YtnnjjbkdjkjnpaaGreatDoor
namespace Go.Proofs.YtnnjjbkdjkjnpaaGreatDoor
def w32(x:UInt32):Int:=x.toNat
def b8(x:UInt8):Int:=x.toNat
def W(x:UInt32):Value:=.int .u32 (w32 x)
def B(x:UInt8):Value:=.int .u8 (b8 x)
theorem b8_range(x:UInt8):0≤b8 x∧b8 x≤255:=by have:=x.toNat_lt;unfold b8;omega
theorem w32_range(x:UInt32):0≤w32 x∧w32 x≤4294967295:=by have:=x.toNat_lt;unfold w32;omega
theorem b8_inj{x y:UInt8}(h:b8 x=b8 y):x=y:=by unfold b8 at h;exact UInt8.toNat_inj.1 (by omega)
def rotr(x n:UInt32):UInt32:=(x >>> n) |||(x <<< (32 - n))
def word4(a b c d:UInt8):UInt32:=a.toUInt32 <<< 24 ||| b.toUInt32 <<< 16 ||| c.toUInt32 <<< 8 ||| d.toUInt32
def beByte(v n i:Nat):UInt8:=UInt8.ofNat (v / 256 ^ (n - 1 - i))
def beBytes(v n:Nat):List UInt8:=(List.range n).map (beByte v n)
def sig0(x:UInt32):UInt32:=rotr x 7 ^^^ rotr x 18 ^^^ (x >>> 3)
def sig1(x:UInt32):UInt32:=rotr x 17 ^^^ rotr x 19 ^^^ (x >>> 10)
def big0(x:UInt32):UInt32:=rotr x 2 ^^^ rotr x 13 ^^^ rotr x 22
def big1(x:UInt32):UInt32:=rotr x 6 ^^^ rotr x 11 ^^^ rotr x 25
def chF(e f g:UInt32):UInt32:=(e &&& f) ^^^ (~~~e &&& g)
def majF(a b c:UInt32):UInt32:=(a &&& b) ^^^ (a &&& c) ^^^ (b &&& c)
def blkWord(b:List UInt8)(i:Nat):UInt32:=word4 (b[4*i]?.getD 0) (b[4*i+1]?.getD 0) (b[4*i+2]?.getD 0) (b[4*i+3]?.getD 0)
def nextWord(w:List UInt32):UInt32:=
 let i:=w.length
 w[i - 16]?.getD 0+sig0 (w[i - 15]?.getD 0)+w[i - 7]?.getD 0+sig1 (w[i - 2]?.getD 0)
def schedN(b:List UInt8):Nat→List UInt32
 | 0=>[]
 | k+1=>schedN b k++[if k < 16 then blkWord b k else nextWord (schedN b k)]
def extend(w:List UInt32):Nat→List UInt32
 | 0=>w
 | k+1=>extend (w++[nextWord w]) k
def sched(b:List UInt8):List UInt32:=extend ((List.range 16).map (blkWord b)) 48
structure St where
 (a b c d e f g h:UInt32)
def St.toList(s:St):List UInt32:=[s.a,s.b,s.c,s.d,s.e,s.f,s.g,s.h]
def St.add(s t:St):St:=⟨s.a+t.a,s.b+t.b,s.c+t.c,s.d+t.d,s.e+t.e,s.f+t.f,s.g+t.g,s.h+t.h⟩
def tOne(k w:UInt32)(s:St):UInt32:=s.h+big1 s.e+chF s.e s.f s.g+k+w
def tTwo(s:St):UInt32:=big0 s.a+majF s.a s.b s.c
def roundF(k w:UInt32)(s:St):St:=⟨tOne k w s+tTwo s,s.a,s.b,s.c,s.d+tOne k w s,s.e,s.f,s.g⟩
def roundsF:List UInt32→List UInt32→St→St
 | k::ks,w::ws,s=>roundsF ks ws (roundF k w s)
 | _,_,s=>s
def compress(ks:List UInt32)(s:St)(blk:List UInt8):St:=s.add (roundsF ks (sched blk) s)
def zerosFor(n:Nat):Nat:=(119 - n % 64) % 64
def padded(b:List UInt8):List UInt8:=b++[128]++List.replicate (zerosFor b.length) 0++beBytes (8*b.length) 8
def blocksF(ks:List UInt32):Nat→St→List UInt8→St
 | 0,s,_=>s
 | n+1,s,m=>blocksF ks n (compress ks s (m.take 64)) (m.drop 64)
def outB(s:St):List UInt8:=s.toList.flatMap fun x=>beBytes x.toNat 4
def shaWith(h:St)(ks:List UInt32)(b:List UInt8):List UInt8:=outB (blocksF ks ((padded b).length / 64) h (padded b))
def firstSt:St:=⟨0x6a09e667,0xbb67ae85,0x3c6ef372,0xa54ff53a,0x510e527f,0x9b05688c,0x1f83d9ab,0x5be0cd19⟩
def roundKs:List UInt32:=[
 0x428a2f98,0x71374491,0xb5c0fbcf,0xe9b5dba5,0x3956c25b,0x59f111f1,0x923f82a4,0xab1c5ed5,0xd807aa98,0x12835b01,0x243185be,0x550c7dc3,0x72be5d74,0x80deb1fe,0x9bdc06a7,0xc19bf174,
 0xe49b69c1,0xefbe4786,0x0fc19dc6,0x240ca1cc,0x2de92c6f,0x4a7484aa,0x5cb0a9dc,0x76f988da,0x983e5152,0xa831c66d,0xb00327c8,0xbf597fc7,0xc6e00bf3,0xd5a79147,0x06ca6351,0x14292967,
 0x27b70a85,0x2e1b2138,0x4d2c6dfc,0x53380d13,0x650a7354,0x766a0abb,0x81c2c92e,0x92722c85,0xa2bfe8a1,0xa81a664b,0xc24b8b70,0xc76c51a3,0xd192e819,0xd6990624,0xf40e3585,0x106aa070,
 0x19a4c116,0x1e376c08,0x2748774c,0x34b0bcb5,0x391c0cb3,0x4ed8aa4a,0x5b9cca4f,0x682e6ff3,0x748f82ee,0x78a5636f,0x84c87814,0x8cc70208,0x90befffa,0xa4506ceb,0xbef9a3f7,0xc67178f2]
def sha(b:List UInt8):List UInt8:=shaWith firstSt roundKs b
theorem beBytes_length(v n:Nat):(beBytes v n).length=n:=by simp [beBytes]
theorem sha_length(b:List UInt8):(sha b).length=32:=by simp [sha,shaWith,outB,St.toList,beBytes_length]
theorem padded_length(b:List UInt8):(padded b).length=b.length+9+zerosFor b.length:=by
 simp [padded,beBytes_length];omega
theorem padded_mod(b:List UInt8):(padded b).length % 64=0:=by
 rw[padded_length];unfold zerosFor;omega
theorem extend_append(w:List UInt32)(k:Nat):extend w (k+1)=extend w k++[nextWord (extend w k)]:=by
 induction k generalizing w with
 | zero=>rfl
 | succ k ih=>rw[extend,ih];rfl
theorem extend_length(w:List UInt32)(k:Nat):(extend w k).length=w.length+k:=by
 induction k generalizing w with
 | zero=>rfl
 | succ k ih=>rw[extend,ih];simp;omega
theorem sched_length(b:List UInt8):(sched b).length=64:=by rw[sched,extend_length];simp
def sw(b:List UInt8)(k:Nat):UInt32:=(sched b)[k]?.getD 0
theorem extend_prefix(w:List UInt32)(n k:Nat)(h:k < w.length):(extend w n)[k]? = w[k]?:=by
 induction n generalizing w with
 | zero=>rfl
 | succ n ih=>rw[extend,ih _ (by simp;omega),List.getElem?_append_left h]
theorem extend_at(w:List UInt32)(n m:Nat)(h:m < n):(extend w n)[w.length+m]? = some (nextWord (extend w m)):=by
 have h1:∀d,(extend w (m+1+d))[w.length+m]? = some (nextWord (extend w m)):=by
  intro d
  induction d with
  | zero=>rw[Nat.add_zero,extend_append,List.getElem?_append_right (by rw[extend_length];omega),extend_length];simp
  | succ d ih=>rw[← Nat.add_assoc,extend_append,List.getElem?_append_left (by rw[extend_length];omega),ih]
 have:=h1 (n - m - 1)
 rwa [show m+1+(n - m - 1)=n by omega]at this
theorem extend_mono(w:List UInt32)(n m k:Nat)(h:m≤n)(hk:k < w.length+m):(extend w n)[k]? =(extend w m)[k]?:=by
 have h1:∀d,(extend w (m+d))[k]? =(extend w m)[k]?:=by
  intro d
  induction d with
  | zero=>rfl
  | succ d ih=>rw[← Nat.add_assoc,extend_append,List.getElem?_append_left (by rw[extend_length];omega),ih]
 have:=h1 (n - m)
 rwa [show m+(n - m)=n by omega]at this
theorem sw_lo(b:List UInt8)(k:Nat)(h:k < 16):sw b k=blkWord b k:=by
 unfold sw sched;rw[extend_prefix _ _ _ (by simp;exact h)];simp [h]
theorem sw_hi(b:List UInt8)(k:Nat)(h:16≤k)(h2:k < 64):sw b k=sw b (k - 16)+sig0 (sw b (k - 15))+sw b (k - 7)+sig1 (sw b (k - 2)):=by
 have e0:((List.range 16).map (blkWord b)).length=16:=by simp
 have h1:=extend_at ((List.range 16).map (blkWord b)) 48 (k - 16) (by omega);rw[e0,show 16+(k - 16)=k by omega]at h1
 have g:∀j,j < k→(extend ((List.range 16).map (blkWord b)) (k - 16))[j]?.getD 0=sw b j:=by
  intro j hj;unfold sw sched;rw[extend_mono _ 48 (k - 16) j (by omega) (by rw[e0];omega)]
 have hl:(extend ((List.range 16).map (blkWord b)) (k - 16)).length=k:=by rw[extend_length,e0];omega
 rw[show sw b k=nextWord (extend ((List.range 16).map (blkWord b)) (k - 16)) by unfold sw sched;rw[h1];rfl];unfold nextWord;simp only [hl];rw[g _ (by omega),g _ (by omega),g _ (by omega),g _ (by omega)]
theorem sched_eq(b:List UInt8):sched b=(List.range 64).map (sw b):=by
 apply List.ext_getElem?
 intro k;by_cases h:k < 64
 ·have:k < (sched b).length:=by rw[sched_length];exact h
  rw[List.getElem?_eq_getElem this];simp [h,sw,this]
 ·rw[List.getElem?_eq_none (by rw[sched_length];omega),List.getElem?_eq_none (by simp;omega)]
theorem beByte_div(v n i:Nat):((v:Int) / 2 ^ (8*(n - 1 - i)) % 256)=b8 (beByte v n i):=by
 unfold beByte b8;rw[UInt8.toNat_ofNat',Int.pow_mul];simp
def stN(b:List UInt8)(h:St):Nat→St
 | 0=>h
 | k+1=>roundF (roundKs[k]?.getD 0) (sw b k) (stN b h k)
theorem roundKs_length:roundKs.length=64:=rfl
theorem roundsF_drop(b:List UInt8)(h:St)(k:Nat)(hk:k≤64):roundsF (roundKs.drop k) ((sched b).drop k) (stN b h k)=roundsF roundKs (sched b) h:=by
 have hs:(sched b).length=64:=sched_length b
 have e2:∀(k:Nat) (h:k < (sched b).length),(sched b)[k]=sw b k:=by
  intro k h;unfold sw;rw[List.getElem?_eq_getElem h];rfl
 generalize sched b=l at *;generalize hr:roundKs=r;have hrl:r.length=64:=by rw[← hr];rfl
 induction k with
 | zero=>rfl
 | succ k ih =>
  rw[← ih (by omega)];have h1:k < r.length:=by omega
  have h2:k < l.length:=by omega
  rw[List.drop_eq_getElem_cons h1,List.drop_eq_getElem_cons h2,roundsF,stN,e2,hr,List.getElem?_eq_getElem h1]
  rfl
theorem stN_all(b:List UInt8)(h:St):stN b h 64=roundsF roundKs (sched b) h:=by
 rw[← roundsF_drop b h 64 (by omega),List.drop_eq_nil_of_le (by rw[roundKs_length];omega)];rfl
theorem compress_eq(b:List UInt8)(h:St):compress roundKs h b=h.add (stN b h 64):=by rw[stN_all];rfl
theorem St.length(s:St):s.toList.length=8:=rfl
def St.at_(s:St)(i:Nat):UInt32:=s.toList[i]?.getD 0
theorem St.add_at(s t:St)(i:Nat)(hi:i < 8):(s.add t).at_ i=s.at_ i+t.at_ i:=by
 match i,hi with
 | 0,_=>rfl
 | 1,_=>rfl
 | 2,_=>rfl
 | 3,_=>rfl
 | 4,_=>rfl
 | 5,_=>rfl
 | 6,_=>rfl
 | 7,_=>rfl
theorem St.list_eq(s:St):s.toList=(List.range 8).map s.at_:=rfl
theorem St.get_at(s:St)(i:Nat)(hi:i < 8):(s.toList.map W)[i]? = some (W (s.at_ i)):=by
 rw[St.list_eq];simp [hi]
def chunkAt(m:List UInt8)(k:Nat):List UInt8:=(m.drop (64*k)).take 64
def stB(m:List UInt8):Nat→St
 | 0=>firstSt
 | k+1=>compress roundKs (stB m k) (chunkAt m k)
theorem blocksF_eq(m:List UInt8)(n:Nat):∀k,blocksF roundKs n (stB m k) (m.drop (64*k))=stB m (k+n):=by
 induction n with
 | zero=>intro k;rfl
 | succ n ih =>
  intro k;rw[blocksF,List.drop_drop,show 64*k+64=64*(k+1) by omega,show k+(n+1)=(k+1)+n by omega,← ih (k+1)]
  rfl
theorem sha_eq(b:List UInt8):sha b=outB (stB (padded b) ((padded b).length / 64)):=by
 have h:=blocksF_eq (padded b) ((padded b).length / 64) 0;rw[Nat.zero_add]at h;rw[← h];rfl
def stL(m:List UInt8)(l:List Nat):St:=l.foldl (fun s k=>compress roundKs s (chunkAt m k)) firstSt
theorem stL_snoc(m:List UInt8)(l:List Nat)(k:Nat):stL m (l++[k])=compress roundKs (stL m l) (chunkAt m k):=by
 unfold stL;rw[List.foldl_append];rfl
theorem stL_range(m:List UInt8)(n:Nat):stL m (List.range n)=stB m n:=by
 induction n with
 | zero=>rfl
 | succ n ih=>rw[List.range_succ,stL_snoc,ih];rfl
theorem chunkAt_length(m:List UInt8)(k n:Nat)(hm:m.length=64*n)(hk:k < n):(chunkAt m k).length=64:=by
 unfold chunkAt;rw[List.length_take,List.length_drop];omega
theorem outB_length(s:St):(outB s).length=32:=by simp [outB,St.toList,beBytes_length]
theorem outB_at(s:St):outB s=(List.range 8).flatMap fun i=>beBytes (s.at_ i).toNat 4:=by
 unfold outB;rw[St.list_eq,List.flatMap_map]
theorem flatMap_take(f:Nat→List UInt8)(hf:∀i,(f i).length=4)(n k:Nat)(hk:k≤n):((List.range n).flatMap f).take (4*k)=(List.range k).flatMap f:=by
 have h:List.range n=List.range k++(List.range (n - k)).map (·+k):=by
  apply List.ext_getElem?
  intro i;by_cases hi:i < k
  ·rw[List.getElem?_append_left (by simpa using hi)];simp [hi,show i < n by omega]
  ·rw[List.getElem?_append_right (by simp;omega)];by_cases hn:i < n
   ·simp [hn,show i - k < n - k by omega];omega
   ·simp [hn];rw[List.getElem?_eq_none (by simp;omega)];rfl
 have hl:((List.range k).flatMap f).length=4*k:=by
  clear h hk
  induction k with
  | zero=>rfl
  | succ k ih=>rw[List.range_succ,List.flatMap_append,List.length_append,ih];simp [hf];omega
 rw[h,List.flatMap_append,List.take_append_of_le_length (by omega),List.take_of_length_le (by omega)]
theorem outB_take(s:St)(k:Nat)(hk:k < 8):(outB s).take (4*(k+1))=(outB s).take (4*k)++beBytes (s.at_ k).toNat 4:=by
 rw[outB_at,flatMap_take _ (fun i=>beBytes_length _ _) _ _ (by omega),flatMap_take _ (fun i=>beBytes_length _ _) _ _ (by omega),List.range_succ,List.flatMap_append];simp
attribute [irreducible] stB stL chunkAt stN St.at_ rotr word4 beByte beBytes sig0 sig1 big0 big1 chF majF blkWord nextWord extend sched sw St.add tOne tTwo roundF roundsF compress zerosFor padded blocksF outB shaWith sha
example:sha [97,98,99]=[0xba,0x78,0x16,0xbf,0x8f,0x01,0xcf,0xea,0x41,0x41,0x40,0xde,0x5d,0xae,0x22,0x23,0xb0,0x03,0x61,0xa3,0x96,0x17,0x7a,0x9c,0xb4,0x10,0xff,0x61,0xf2,0x00,0x15,0xad]:=by decide +kernel
open Go.RowKit
theorem wrap_w32(x:UInt32):IntKind.u32.wrap (w32 x)=w32 x:=by
 have h:=w32_range x;simp only [IntKind.wrap,IntKind.signed,IntKind.bits,Bool.false_and,Bool.false_eq_true,if_false];omega
theorem wrap_nat(n:Nat):IntKind.u32.wrap (n:Int)=w32 (UInt32.ofNat n):=by
 simp only [IntKind.wrap,IntKind.signed,IntKind.bits,Bool.false_and,Bool.false_eq_true,if_false,w32,UInt32.toNat_ofNat'];omega
theorem wrap8_nat(n:Nat):IntKind.u8.wrap (n:Int)=b8 (UInt8.ofNat n):=by
 simp only [IntKind.wrap,IntKind.signed,IntKind.bits,Bool.false_and,Bool.false_eq_true,if_false,b8,UInt8.toNat_ofNat'];omega
theorem bv_w32(x:UInt32):BitVec.ofInt 32 (w32 x)=x.toBitVec:=by
 apply BitVec.eq_of_toNat_eq
 simp [w32]
theorem bv_b8(x:UInt8):BitVec.ofInt 8 (b8 x)=x.toBitVec:=by
 apply BitVec.eq_of_toNat_eq
 simp [b8]
theorem add_w(x y:UInt32):Op.intArith .add .u32 (w32 x) (w32 y)=pure (.int .u32 (w32 (x+y))):=by
 have:IntKind.u32.wrap (w32 x+w32 y)=w32 (x+y):=by
  simp only [IntKind.wrap,IntKind.signed,IntKind.bits,Bool.false_and,Bool.false_eq_true,if_false,w32,UInt32.toNat_add];omega
 show pure (Value.int .u32 (IntKind.u32.wrap (w32 x+w32 y)))=_
 rw[this]
theorem back_w(r:UInt32):IntKind.u32.wrap ((r.toBitVec.toNat:Nat):Int)=w32 r:=by
 show IntKind.u32.wrap (w32 r)=w32 r
 exact wrap_w32 r
theorem back_b(r:UInt8):IntKind.u8.wrap ((r.toBitVec.toNat:Nat):Int)=b8 r:=by
 have:=wrap8_nat r.toNat;simpa using this
theorem xor_w(x y:UInt32):Op.intBits .xor .u32 (w32 x) (w32 y)=pure (.int .u32 (w32 (x ^^^ y))):=by
 show pure (Value.int .u32 (IntKind.u32.wrap (((BitVec.ofInt 32 (w32 x) ^^^ BitVec.ofInt 32 (w32 y)).toNat:Nat):Int)))=_
 rw[bv_w32,bv_w32,show x.toBitVec ^^^ y.toBitVec=(x ^^^ y).toBitVec from rfl,back_w]
theorem and_w(x y:UInt32):Op.intBits .and .u32 (w32 x) (w32 y)=pure (.int .u32 (w32 (x &&& y))):=by
 show pure (Value.int .u32 (IntKind.u32.wrap (((BitVec.ofInt 32 (w32 x) &&& BitVec.ofInt 32 (w32 y)).toNat:Nat):Int)))=_
 rw[bv_w32,bv_w32,show x.toBitVec &&& y.toBitVec=(x &&& y).toBitVec from rfl,back_w]
theorem or_w(x y:UInt32):Op.intBits .or .u32 (w32 x) (w32 y)=pure (.int .u32 (w32 (x ||| y))):=by
 show pure (Value.int .u32 (IntKind.u32.wrap (((BitVec.ofInt 32 (w32 x) ||| BitVec.ofInt 32 (w32 y)).toNat:Nat):Int)))=_
 rw[bv_w32,bv_w32,show x.toBitVec ||| y.toBitVec=(x ||| y).toBitVec from rfl,back_w]
theorem xor_b(x y:UInt8):Op.intBits .xor .u8 (b8 x) (b8 y)=pure (.int .u8 (b8 (x ^^^ y))):=by
 show pure (Value.int .u8 (IntKind.u8.wrap (((BitVec.ofInt 8 (b8 x) ^^^ BitVec.ofInt 8 (b8 y)).toNat:Nat):Int)))=_
 rw[bv_b8,bv_b8,show x.toBitVec ^^^ y.toBitVec=(x ^^^ y).toBitVec from rfl,back_b]
theorem or_b(x y:UInt8):Op.intBits .or .u8 (b8 x) (b8 y)=pure (.int .u8 (b8 (x ||| y))):=by
 show pure (Value.int .u8 (IntKind.u8.wrap (((BitVec.ofInt 8 (b8 x) ||| BitVec.ofInt 8 (b8 y)).toNat:Nat):Int)))=_
 rw[bv_b8,bv_b8,show x.toBitVec ||| y.toBitVec=(x ||| y).toBitVec from rfl,back_b]
theorem not_w(x:UInt32):Op.unary .xor (.int .u32 (w32 x))=pure (.int .u32 (w32 (~~~x))):=by
 rw[unary_xor];show Op.intBits .xor .u32 (w32 0xffffffff) (w32 x)=_
 rw[xor_w]
 have:(0xffffffff:UInt32) ^^^ x = ~~~x:=by
  apply UInt32.eq_of_toBitVec_eq
  show(BitVec.allOnes 32) ^^^ x.toBitVec = ~~~x.toBitVec
  rw[BitVec.allOnes_xor]
 rw[this]
theorem shr_w(x:UInt32)(yk:IntKind)(n:Int)(h0:0≤n)(h1:n≤31):Op.shift .shr .u32 (w32 x) yk n=pure (.int .u32 (w32 (x >>> UInt32.ofNat n.toNat))):=by
 obtain⟨k,rfl⟩:=Int.eq_ofNat_of_zero_le h0;have hk:k≤31:=by omega
 have e:Op.shift .shr .u32 (w32 x) yk (k:Int)=pure (.int .u32 ((w32 x).fdiv (2 ^ k))):=by
  unfold Op.shift;rw[if_neg (by omega)];simp only [Int.toNat_natCast,show min k IntKind.u32.bits=k from Nat.min_eq_left (by simp [IntKind.bits];omega)]
 rw[e]
 have:(w32 x).fdiv (2 ^ k)=w32 (x >>> UInt32.ofNat k):=by
  unfold w32;rw[Int.fdiv_eq_ediv_of_nonneg _ (by exact Int.pow_nonneg (by omega)),UInt32.toNat_shiftRight,UInt32.toNat_ofNat',Nat.shiftRight_eq_div_pow,show k % 2 ^ 32 % 32=k by omega];simp
 rw[this];rfl
theorem shl_w(x:UInt32)(yk:IntKind)(n:Int)(h0:0≤n)(h1:n≤31):Op.shift .shl .u32 (w32 x) yk n=pure (.int .u32 (w32 (x <<< UInt32.ofNat n.toNat))):=by
 obtain⟨k,rfl⟩:=Int.eq_ofNat_of_zero_le h0;have hk:k≤31:=by omega
 have e:Op.shift .shl .u32 (w32 x) yk (k:Int)=pure (.int .u32 (IntKind.u32.wrap ((w32 x)*(2 ^ k)))):=by
  unfold Op.shift;rw[if_neg (by omega)];simp only [Int.toNat_natCast,show min k IntKind.u32.bits=k from Nat.min_eq_left (by simp [IntKind.bits];omega)]
 rw[e]
 have:IntKind.u32.wrap (w32 x*2 ^ k)=w32 (x <<< UInt32.ofNat k):=by
  have e1:w32 x*2 ^ k=((x.toNat*2 ^ k:Nat):Int):=by simp [w32]
  rw[e1,wrap_nat];unfold w32;rw[UInt32.toNat_ofNat',UInt32.toNat_shiftLeft,UInt32.toNat_ofNat',Nat.shiftLeft_eq,show k % 2 ^ 32 % 32=k by omega]
 rw[this];rfl
theorem wrap_b8(x:UInt8):IntKind.u32.wrap (b8 x)=w32 x.toUInt32:=by
 have e:b8 x=((x.toNat:Nat):Int):=rfl;rw[e,wrap_nat]
 apply congrArg
 apply UInt32.toNat_inj.1
 have:=x.toNat_lt;rw[UInt32.toNat_ofNat',UInt8.toNat_toUInt32];omega
theorem all_bytes(l:List UInt8):∀v∈l.map B,v.oneCell'=true:=fun v hv=>by obtain⟨x,_,rfl⟩:=List.mem_map.1 hv;rfl
theorem conv_u64'{n:Nat}(h:n≤18446744073709551615):IntKind.u64.wrap (n:Int)=(n:Int):=by rw[IntKind.wrap_u64];omega
end Go.Proofs.YtnnjjbkdjkjnpaaGreatDoor

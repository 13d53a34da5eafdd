/- Layer 5: the root,in the program and in the document's answer. -/
import Derived.Test.YtnnjjbkdjkjnpaaGreatDoorSpendPlaysRb11
import Derived.CallsIn
import Derived.OrdersIn
set_option linter.unusedSimpArgs false
set_option linter.unusedVariables false
set_option maxRecDepth 100000
set_option maxHeartbeats 16000000
namespace Go.Proofs.YtnnjjbkdjkjnpaaGreatDoor
open Go.RowKit Go.Shelf
def rootB(l:List (List UInt8)):List UInt8:=
 match l with
 |[]=>noneB
 |[x]=>leafB x
 | x::y::r=>nodeB (rootB ((x::y::r).take (halfN (x::y::r).length))) (rootB ((x::y::r).drop (halfN (x::y::r).length)))
termination_by l.length
decreasing_by
 ·rw[List.length_take];have:=halfN_lt (n:=(x::y::r).length) (by simp);omega
 ·rw[List.length_drop];have:=halfN_pos (x::y::r).length;simp only [List.length_cons]at *;omega
attribute [local irreducible] leafB nodeB noneB
end Go.Proofs.YtnnjjbkdjkjnpaaGreatDoor
namespace Go.Proofs.YtnnjjbkdjkjnpaaGreatDoor
open Go.RowKit
def zeroD:List UInt8:=List.replicate 32 0
theorem inB_iff{n lo hi:Int}:inB n lo hi=true↔lo≤n∧n≤hi:=by unfold inB;simp
structure Inp where
 tx:List UInt8
 index:Int
 amount:Int
 secret:List UInt8
structure Outp where
 owner:List UInt8
 amount:Int
structure Txn where
 ins:List Inp
 outs:List Outp
 fee:Int
 expiry:Int
def Inp.ok(i:Inp):Prop:=i.tx.length=32∧I64 i.index∧U64 i.amount
def Outp.ok(o:Outp):Prop:=o.owner.length=32∧U64 o.amount
def Txn.ok(t:Txn):Prop:=(∀i∈t.ins,i.ok)∧(∀o∈t.outs,o.ok)∧U64 t.fee∧I64 t.expiry
def Inp.pt(i:Inp):List UInt8×Int:=(i.tx,i.index)
def longI(i:Inp):Bool:=decide (64 < i.secret.length) || !inB i.index 0 15
def shortT(t:Txn):Bool:=inB t.ins.length 1 16 && inB t.outs.length 1 16 && inB t.expiry 0 1099511627776
def longT(t:Txn):Bool:=!shortT t || t.ins.any longI
def twiceT(t:Txn):Bool:=!decide ((t.ins.map Inp.pt).Nodup)
def zeroT(t:Txn):Bool:=(t.ins.map Inp.amount).contains 0 ||(t.outs.map Outp.amount).contains 0
def checkT(t:Txn):Int:=
 if longT t=true then 4 else if twiceT t=true then 7 else if zeroT t=true then 8
 else if(allE 0 (t.ins.map Inp.amount)).2≠0 then(allE 0 (t.ins.map Inp.amount)).2
 else if(allE 0 (t.outs.map Outp.amount++[t.fee])).2≠0 then(allE 0 (t.outs.map Outp.amount++[t.fee])).2
 else if(allE 0 (t.ins.map Inp.amount)).1≠(allE 0 (t.outs.map Outp.amount++[t.fee])).1 then 9 else 0
def putI(i:Inp):List UInt8:=i.tx++numB i.index.toNat++numB i.amount.toNat++numB i.secret.length++i.secret
def putO(o:Outp):List UInt8:=o.owner++numB o.amount.toNat
def putTB(t:Txn):List UInt8:=numB t.ins.length++t.ins.flatMap putI++numB t.outs.length++t.outs.flatMap putO++numB t.fee.toNat++numB t.expiry.toNat
def tformB(t:Txn):List UInt8:=if checkT t=0 then putTB t else []
def tidB(t:Txn):List UInt8:=if checkT t=0 then sha (underB 8 [putTB t]) else zeroD
def ownerB(s:List UInt8):List UInt8:=sha (underB 9 [s])
theorem short_of{t:Txn}(h:checkT t=0):shortT t=true∧∀i∈t.ins,i.secret.length≤64∧0≤i.index∧i.index≤15:=by
 unfold checkT at h;split at h
 ·cases h
 ·rename_i hl;unfold longT at hl;simp only [Bool.or_eq_true,not_or,Bool.not_eq_true',Bool.not_eq_true,Bool.not_eq_false,List.any_eq_false]at hl;refine⟨by simpa using hl.1,fun i hi=>?_⟩;have h9:=hl.2 i hi;simp [longI,inB]at h9;omega
open Go.RowKit Go.ChangeShapes Go.WideShapes
def inV(v:Value)(i:Inp):List Value:=i.tx.map B++[.int .i64 i.index,.int .u64 i.amount,v]
def outV(o:Outp):List Value:=o.owner.map B++[.int .u64 o.amount]
theorem inV_len{v:Value}{i:Inp}(h:i.ok):(inV v i).length=35:=by simp [inV,h.1]
theorem outV_len{o:Outp}(h:o.ok):(outV o).length=33:=by simp [outV,h.1]
theorem in_at{v:Value}{i:Inp}(h:i.ok):(inV v i)[32]? = some (.int .i64 i.index)∧(inV v i)[33]? = some (.int .u64 i.amount)∧(inV v i)[34]? = some v:=by
 have e0:(i.tx.map B).length=32:=by rw[List.length_map,h.1]
 refine⟨?_,?_,?_⟩
 all_goals
  unfold inV;rw[List.getElem?_append_right (by omega),e0]
  rfl
theorem out_at{o:Outp}(h:o.ok):(outV o)[32]? = some (.int .u64 o.amount):=by
 have e0:(o.owner.map B).length=32:=by rw[List.length_map,h.1]
 unfold outV;rw[List.getElem?_append_right (by omega),e0];rfl
theorem cells_tin:Tryz.prog.cellsOf 72=35:=by kernel_rfl
theorem cells_tout:Tryz.prog.cellsOf 74=33:=by kernel_rfl
theorem cells_tx:Tryz.prog.cellsOf 27=4:=by kernel_rfl
theorem cells_stin:Tryz.prog.cellsOf 23=1:=by kernel_rfl
theorem cells_stout:Tryz.prog.cellsOf 24=1:=by kernel_rfl
theorem row_tin:RowT Tryz.prog 72 35:=⟨_,Tryz.underlying72,by kernel_rfl,by kernel_rfl⟩
theorem row_tout:RowT Tryz.prog 74 33:=⟨_,Tryz.underlying74,by kernel_rfl,by kernel_rfl⟩
theorem row_tx:RowT Tryz.prog 27 4:=⟨_,Tryz.underlying27,by kernel_rfl,by kernel_rfl⟩
def InOK(w:World)(Bd:Nat)(p:Value×Inp):Prop:=(∃A c,p.1=.slice A p.2.secret.length c∧p.2.secret.length≤c∧Sl w Bd 1 A p.2.secret.length (p.2.secret.map B))∧p.2.ok
def InsAt(w:World)(A:Option Addr)(n c:Nat)(l:List (Value×Inp)):Prop:=Sl w w.heap.size 35 A n (l.flatMap fun p=>inV p.1 p.2)∧(∀p∈l,InOK w w.heap.size p)∧l.length=n∧n≤c
def OutsAt(w:World)(A:Option Addr)(n c:Nat)(os:List Outp):Prop:=Sl w w.heap.size 33 A n (os.flatMap outV)∧(∀o∈os,o.ok)∧os.length=n∧n≤c
theorem InsAt.grow{w w2:World}{A:Option Addr}{n c:Nat}{l:List (Value×Inp)}(h:InsAt w A n c l)(k:Grow w w2):InsAt w2 A n c l:=
 ⟨(h.1.below k).more k.size, fun p hp => by
   obtain⟨⟨A',c',e,hc,hs⟩,ho⟩:=h.2.1 p hp
   exact⟨⟨A',c',e,hc,(hs.below k).more k.size⟩,ho⟩,h.2.2⟩
theorem OutsAt.grow{w w2:World}{A:Option Addr}{n c:Nat}{l:List Outp}(h:OutsAt w A n c l)(k:Grow w w2):OutsAt w2 A n c l:=⟨(h.1.below k).more k.size,h.2⟩
section
variable {H:Type} {enc:TypeId×Value→H} {w:World} {r:Reach} {b0 base:Nat} {spare:Nat→Bool} {held:Bool}
theorem trod_point {fuel : Nat} {cs : List Value} {y : DataW H × List MemPlace} (hl0 : cs.length = 33) (hf : DataW.trod enc Tryz.prog w base spare held fuel 69 cs = some y) :
  ∃(d:List UInt8) (z:Int),cs=d.map B++[.int .i64 z]∧d.length=32∧I64 z:=by
 obtain⟨xs,n,_,_,hl,hxs,hg⟩:=DataW.trod_struct Tryz.underlying69 hf;replace hg:=fun i f h=>hg i f h
 have hxs5:xs.length=2:=hxs;obtain⟨y0,h0⟩:=got (hg 0 _ rfl) (by omega);obtain⟨y1,h1⟩:=got (hg 1 _ rfl) (by omega);replace h0:DataW.trod enc Tryz.prog w base spare held n 46 ((cs.drop 0).take (Tryz.prog.cellsOf 46))=some y0:=h0;replace h1:DataW.trod enc Tryz.prog w base spare held n 3 ((cs.drop 32).take (Tryz.prog.cellsOf 3))=some y1:=h1;rw[cells_id]at h0;rw[cells_int]at h1;obtain⟨d0,e0,l0⟩:=trod_bytes Tryz.underlying46 Tryz.underlying5 cells_u8 cells_id h0;obtain⟨z1,e1,_,w1⟩:=DataW.trod_int Tryz.underlying3 h1;refine⟨d0,z1,?_,l0,i64_of w1⟩;have a2:cs.drop 33=[]:=List.drop_of_length_le (by omega);have a1:=cut_eq e1 a2;have a0:=cut_eq e0 a1;rw[List.drop_zero]at a0;rw[a0];simp
theorem trod_in {fuel : Nat} {cs : List Value} {y : DataW H × List MemPlace} (hl0 : cs.length = 35) (hf : DataW.trod enc Tryz.prog w base spare held fuel 72 cs = some y) :
  ∃p:Value×Inp,cs=inV p.1 p.2∧InOK w w.heap.size p:=by
 obtain⟨xs,n,_,_,hl,hxs,hg⟩:=DataW.trod_struct Tryz.underlying72 hf;replace hg:=fun i f h=>hg i f h
 have hxs5:xs.length=3:=hxs;obtain⟨y0,h0⟩:=got (hg 0 _ rfl) (by omega);obtain⟨y1,h1⟩:=got (hg 1 _ rfl) (by omega);obtain⟨y2,h2⟩:=got (hg 2 _ rfl) (by omega);replace h0:DataW.trod enc Tryz.prog w base spare held n 69 ((cs.drop 0).take (Tryz.prog.cellsOf 69))=some y0:=h0;replace h1:DataW.trod enc Tryz.prog w base spare held n 25 ((cs.drop 33).take (Tryz.prog.cellsOf 25))=some y1:=h1;replace h2:DataW.trod enc Tryz.prog w base spare held n 70 ((cs.drop 34).take (Tryz.prog.cellsOf 70))=some y2:=h2;rw[cells_point]at h0;rw[cells_u64]at h1;rw[cells_su8]at h2;obtain⟨d,z,e0,l0,hz⟩:=trod_point (by rw[List.length_take,List.length_drop];omega) h0;obtain⟨z1,e1,_,w1⟩:=DataW.trod_int Tryz.underlying25 h1;obtain⟨A',n',c',bs,e2,hs,hn,_,hbl⟩:=open_u8s0 Tryz.underlying70 Tryz.underlying5 (by kernel_rfl) h2;refine⟨(.slice A' n' c',⟨d,z,z1,bs⟩),?_,⟨A',c',by rw[hbl],by rw[hbl];exact hn,by rw[hbl];exact hs⟩,l0,hz,u64_of w1⟩;have a3:cs.drop 35=[]:=List.drop_of_length_le (by omega);have a2:=cut_eq e2 a3;have a1:=cut_eq e1 a2;have a0:=cut_eq e0 a1;rw[List.drop_zero]at a0;rw[a0];simp [inV]
theorem trod_out {fuel : Nat} {cs : List Value} {y : DataW H × List MemPlace} (hl0 : cs.length = 33) (hf : DataW.trod enc Tryz.prog w base spare held fuel 74 cs = some y) :
  ∃o:Outp,cs=outV o∧o.ok:=by
 obtain⟨xs,n,_,_,hl,hxs,hg⟩:=DataW.trod_struct Tryz.underlying74 hf;replace hg:=fun i f h=>hg i f h
 have hxs5:xs.length=2:=hxs;obtain⟨y0,h0⟩:=got (hg 0 _ rfl) (by omega);obtain⟨y1,h1⟩:=got (hg 1 _ rfl) (by omega);replace h0:DataW.trod enc Tryz.prog w base spare held n 46 ((cs.drop 0).take (Tryz.prog.cellsOf 46))=some y0:=h0;replace h1:DataW.trod enc Tryz.prog w base spare held n 25 ((cs.drop 32).take (Tryz.prog.cellsOf 25))=some y1:=h1;rw[cells_id]at h0;rw[cells_u64]at h1;obtain⟨d0,e0,l0⟩:=trod_bytes Tryz.underlying46 Tryz.underlying5 cells_u8 cells_id h0;obtain⟨z1,e1,_,w1⟩:=DataW.trod_int Tryz.underlying25 h1;refine⟨⟨d0,z1⟩,?_,l0,u64_of w1⟩;have a2:cs.drop 33=[]:=List.drop_of_length_le (by omega);have a1:=cut_eq e1 a2;have a0:=cut_eq e0 a1;rw[List.drop_zero]at a0;rw[a0];simp [outV]
instance:Inhabited Inp:=⟨⟨[],0,0,[]⟩⟩
instance:Inhabited Outp:=⟨⟨[],0⟩⟩
end
end Go.Proofs.YtnnjjbkdjkjnpaaGreatDoor
namespace Go.Proofs.YtnnjjbkdjkjnpaaGreatDoor
open Go.RowKit
def StopT(p:Prop):Prop:=p
theorem wpl_stop{P:Program}{ops:Array Oper}{rest:List Oper}{o:Oper}{a:Act}{w:World}{Q:Exit→Act→World→Prop}(h:StopT (wpList P ops Q (o::rest) a w)):wpList P ops Q (o::rest) a w:=h
theorem wst{P:Program}{ops:Array Oper}{rest:List Oper}(s:Nat){op:Op}{ty:TypeId}{ps:String}{af:Array Edge}{gd:Option (Nat×Bool)}{a:Act}{w:World}{Q:Exit→Act→World→Prop}(h:StopT (wpList P ops Q (⟨some s,op,ty,ps,af,gd⟩::rest) a w)):wpList P ops Q (⟨some s,op,ty,ps,af,gd⟩::rest) a w:=h
theorem stop_go{p:Prop}(h:p):StopT p:=h
open Go.RowKit Go.Shelf
structure Kept (K:Nat→Prop) (w w':World):Prop where
 os:w'.os=w.os
 tape:w'.tape=w.tape
 output:w'.output=w.output
 size:w.heap.size≤w'.heap.size
 block:∀k,K k→w'.heap[k]? = w.heap[k]?
section
variable {K:Nat→Prop} {w w1 w2:World}
theorem Kept.refl(K:Nat→Prop)(w:World):Kept K w w:=⟨rfl,rfl,rfl,Nat.le_refl _,fun _ _=>rfl⟩
theorem Kept.trans(h:Kept K w w1)(k:Kept K w1 w2):Kept K w w2:=⟨k.os.trans h.os,k.tape.trans h.tape,k.output.trans h.output,Nat.le_trans h.size k.size,fun i hi=>(k.block i hi).trans (h.block i hi)⟩
theorem Kept.of_grow(h:Grow w w1)(hK:∀k,K k→k < w.heap.size):Kept K w w1:=⟨h.os,h.tape,h.output,h.size,fun k hk=>h.block k (hK k hk)⟩
theorem Kept.of_grown{row:Option Nat}(h:w.grownBy w1 row)(hK:∀k,K k→k < w.heap.size∧row≠some k):Kept K w w1:=
 ⟨h.os,h.tape,h.output,h.size,fun k hk=>h.block k (hK k hk).1 (fun e=>(hK k hk).2 e.symm)⟩
theorem Kept.mono{K':Nat→Prop}(h:Kept K w w1)(hK:∀k,K' k→K k):Kept K' w w1:=⟨h.os,h.tape,h.output,h.size,fun k hk=>h.block k (hK k hk)⟩
theorem Kept.below{Bd:Nat}(h:Kept K w w1)(hB:∀k,k < Bd→K k):Below Bd w w1:=⟨h.os,h.tape,h.output,h.size,fun k hk=>h.block k (hB k hk)⟩
theorem Kept.blk{g:Nat}{t:TypeId}{cs:List Value}(h:Kept K w w1)(hb:Blk w g t cs)(hg:K g):Blk w1 g t cs:=(h.block g hg).trans hb
def PenAt(w:World)(K:Nat→Prop)(g:Nat)(xs:List UInt8):Prop:=
 ∃A c,Blk w g 106 [.slice A xs.length c]∧w.ownsRow 0 5 1 (.slice A xs.length c) xs.length (xs.map B)∧(∀k,K k→k < w.heap.size∧k≠g∧A.map Addr.block≠some k)∧A.map Addr.block≠some g
theorem own_lt{base:Nat}{e:TypeId}{sz n c:Nat}{A:Option Addr}{ys:List Value}(h:w.ownsRow base e sz (.slice A n c) n ys):∀g,A.map Addr.block=some g→g < w.heap.size:=by
 rcases h.2 with ⟨hv,_⟩|⟨g,cap,cur,hv,_,hh,_⟩
 ·injection hv with hA;subst hA;intro g hg;cases hg
 ·injection hv with hA;subst hA
  intro g' hg';obtain rfl:g=g':=by simpa using hg'
  exact(Array.getElem?_eq_some_iff.1 hh).1
theorem PenAt.grow{g:Nat}{xs:List UInt8}(h:PenAt w K g xs)(k:Grow w w1):PenAt w1 K g xs:=by
 obtain⟨A,c,h1,h2,h3,h4⟩:=h;exact⟨A,c,h1.grow k,h2.grow k,fun j hj=>⟨Nat.lt_of_lt_of_le (h3 j hj).1 k.size,(h3 j hj).2⟩,h4⟩
theorem PenAt.lt{g:Nat}{xs:List UInt8}(h:PenAt w K g xs):g < w.heap.size:=by obtain⟨A,c,h1,_⟩:=h;exact h1.lt
theorem PenAt.less{K':Nat→Prop}{g:Nat}{xs:List UInt8}(h:PenAt w K g xs)(hK:∀k,K' k→K k):PenAt w K' g xs:=by
 obtain⟨A,c,h1,h2,h3,h4⟩:=h;exact⟨A,c,h1,h2,fun j hj=>h3 j (hK j hj),h4⟩
theorem PenAt.more{K':Nat→Prop}{g:Nat}{xs:List UInt8}(h:PenAt w K g xs)(k:Grow w w1)(hK:∀j,K' j→K j∨(w.heap.size≤j∧j < w1.heap.size)):PenAt w1 K' g xs:=by
 have hlt:=h.lt;obtain⟨A,c,h1,h2,h3,h4⟩:=h;refine⟨A,c,h1.grow k,h2.grow k,fun j hj=>?_,h4⟩;rcases hK j hj with hk|⟨ha,hb⟩
 ·exact⟨Nat.lt_of_lt_of_le (h3 j hk).1 k.size,(h3 j hk).2⟩
 ·exact⟨hb,by omega,fun e=>by have:=own_lt h2 j e;omega⟩
theorem PenAt.new{g:Nat}(h:Blk w g 106 [.slice none 0 0])(hK:∀k,K k→k < w.heap.size∧k≠g):PenAt w K g []:=
 ⟨none,0,h,World.ownsRow_nil w _ _ _,fun k hk=>⟨(hK k hk).1,(hK k hk).2,by simp⟩,by simp⟩
theorem pen_app {g c c' : Nat} {A A' : Option Addr} {xs ys : List UInt8} (h1 : Blk w g 106 [.slice A xs.length c]) (h2 : w.ownsRow 0 5 1 (.slice A xs.length c) xs.length (xs.map B))
  (h3:∀k,K k→k < w.heap.size∧k≠g∧A.map Addr.block≠some k) (h4:A.map Addr.block≠some g)
  (ho:w1.ownsRow 0 5 1 (.slice A' ys.length c') ys.length (ys.map B)) (hg:w.grownBy w1 (A.map Addr.block)) (hA:∀b,A'.map Addr.block=some b→A.map Addr.block=some b∨w.heap.size≤b) :
  PenAt (w1.setCell ⟨g,0,none⟩ (.slice A' ys.length c')) K g ys∧Kept K w (w1.setCell ⟨g,0,none⟩ (.slice A' ys.length c')):=by
 have hlt:=h1.lt;have hne:A'.map Addr.block≠some g:=fun e=>by rcases hA g e with h|h <;> first|exact h4 h|omega
 have hk:Kept K w w1:=Kept.of_grown hg (fun k hk=>⟨(h3 k hk).1,(h3 k hk).2.2⟩);have hs:=grown_set w1 g 0 (.slice A' ys.length c');refine⟨⟨A',c',?_,own_kept ho hs (fun k e=>by rw[e]at hne;intro e2;injection e2 with e3;exact hne (by simp [e3])),fun k hkk=>⟨?_,(h3 k hkk).2.1,fun e=>?_⟩,hne⟩,hk.trans (Kept.of_grown hs (fun k hkk=>⟨Nat.lt_of_lt_of_le (h3 k hkk).1 hk.size,fun e=>(h3 k hkk).2.1 (by injection e with e;exact e.symm)⟩))⟩
 ·have:=(h1.grown hg (fun e=>h4 e.symm)).set_ 0 (.slice A' ys.length c');simpa using this
 ·exact Nat.lt_of_lt_of_le (Nat.lt_of_lt_of_le (h3 k hkk).1 hk.size) hs.size
 ·rcases hA k e with h|h
  ·exact(h3 k hkk).2.2 h
  ·have:=(h3 k hkk).1;omega
end
end Go.Proofs.YtnnjjbkdjkjnpaaGreatDoor
namespace Go.Proofs.YtnnjjbkdjkjnpaaGreatDoor
open Go.RowKit Go.Shelf
theorem back_any (A : Option Addr) (n c : Nat) (w : World) :
  Calls Tryz.prog 106 #[.slice A n c] w fun e w'=>e=.returned (.func (.func 120) #[] #[.pointer (some ⟨w.heap.size,0,none⟩)]) ∧
   w'.cell? ⟨w.heap.size,0,none⟩=some (.slice A n c)∧w'.heap.size=w.heap.size+1∧Below w.heap.size w w':=by
 go_enter Tryz.func106,Tryz.ntmps106
 go_wp2_with fail;go_ret
 exact⟨rfl,by simp,by simp,(Below.refl _ _).alloc (Nat.le_refl _) _⟩
def nthB(ys:List UInt8)(k:Nat):UInt8:=ys.getD (ys.length - 1 - k) 0
theorem back1_any (m : Nat) (hm : 1 ≤ m) (l Bs bl n c : Nat) (A : Option Addr) (ys : List UInt8) (hA : 1 ≤ n → A = some ⟨bl, 0, none⟩) (hn : ys.length = n) (hc : n ≤ c) (hnb : n ≤ 1000000) (Kp : World → World → Prop) (hKd : ∀ W n, Kp W (World.drewN W n)) (hKt : ∀ A B C : World, Kp A B → Kp B C → Kp A C)
  (hKs:∀W W',Kp W W'→W'.cell? ⟨Bs,0,none⟩=W.cell? ⟨Bs,0,none⟩) (hKb:∀W W',Kp W W'→1≤n→∀j,W'.cell? ⟨bl,j,none⟩=W.cell? ⟨bl,j,none⟩) (J Jx:List (Fin n)→World→Prop) (hJd:∀pre W1 n,J pre W1→J pre (W1.drewN n))
  (hY : ∀ pre x W, J pre W → pre.length < n → YieldAt Fence.wide (m - 1) Tryz.prog l #[.int .i64 ((n : Int) - 1 - (x.val : Int)), .int .u8 (b8 (nthB ys x.val))] W fun e W' =>
    (e=.returned (.bool true)∧J (pre++[x]) W'∧Kp W W')∨(e=.returned (.bool false)∧Jx (pre++[x]) W'))
  (W:World) (hBs:W.cell? ⟨Bs,0,none⟩=some (.slice A n c)) (hRd:∀j y,ys[j]? = some y→W.cell? ⟨bl,j,none⟩=some (B y)) (h0:J [] W) :
  Calls Tryz.prog 120 #[.func (.yield l) #[] #[],.pointer (some ⟨Bs,0,none⟩)] W fun e W'=>(∃v,e=.returned v) ∧
   ((∃zs,zs.map Fin.val=List.range n∧J zs W')∨(∃pre,True∧Jx pre W')):=by
 have HY:=kp hY;clear hY;have HKD:=kp hKd;clear hKd;have HKT:=kp hKt;clear hKt;have HKS:=kp hKs;clear hKs;have HKB:=kp hKb;clear hKb;have HJD:=kp hJd;clear hJd;have H0:=kp h0;clear h0;have HBS:=kp hBs;clear hBs;have HRD:=kp hRd;clear hRd;have HA:=kp hA;clear hA;have HN:=kp hn;clear hn
 go_enter Tryz.func120,Tryz.ntmps120
 have c0:=HBS.o;go_wp2_with fail;clear c0;go_loopw [3] (fun i wr=>∃k:Nat,k≤n∧i=.int .i64 ((n:Int) - 1 - (k:Int))∧Hid (∃pre,pre.map Fin.val=List.range k∧J pre wr)∧Hid (Kp W wr)) (fun i _=>(intOf i+1).toNat)
 case atStart=>exact⟨0,Nat.zero_le _,by simp,⟨[],rfl,H0.o⟩,HKD.o W 0⟩
 case round =>
  obtain⟨k,hk,rfl,hJ,hbw⟩:=hrel;by_cases hlt:k < n
  ·obtain rfl:=HA.o (by omega);have c0:=(HKS.o _ _ hbw.o).trans HBS.o;obtain⟨j,hj1,hj2⟩:∃j:Nat,(n:Int) - 1 - (k:Int)=(j:Int)∧j=n - 1 - k:=⟨n - 1 - k,by omega,rfl⟩;have hjn:j < n:=by omega
   have hyj:ys[j]? = some (nthB ys k):=by
    unfold nthB;rw[HN.o,← hj2,List.getD_eq_getElem?_getD,List.getElem?_eq_getElem (by rw[HN.o];exact hjn)];rfl
   have c1:wr.cell? ⟨bl,j,none⟩=some (.int .u8 (b8 (nthB ys k))):=(HKB.o _ _ hbw.o (by omega) j).trans (HRD.o j _ hyj);obtain⟨pre,hpre,hJp⟩:=hJ.o;have HPRE:=kp hpre;have hlen:pre.length=k:=by have:=congrArg List.length hpre;simpa using this
   obtain⟨fn,tmps,assign,body,hy,hR⟩:=HY.o pre ⟨k,hlt⟩ wr hJp (by rw[hlen];exact hlt);have HR:=kp hR;clear hR hJp hpre hlen hJ hyj
   dsimp only at hy
   rw[hj1]at hy ⊢;have HJ1:=kp hj1;have HJ2:=kp hj2;have hg0:decide (0≤(j:Int))=true:=by simp
   clear hj1 hj2;repeat' (first|(with_reducible refine(wpIn_wide (n:=m) (c:=Code.region 3 _ _)).1 ?_)|go_values|go_skip|go_guarded|go_step|go_upon|go_back)
   gi_wp2
   refine HR.o.mono ?_;rintro e W3 (⟨rfl,hJ3,hk3⟩|⟨rfl,hJx3⟩)
   ·have HJ3:=kp hJ3;have HK3:=kp (HKT.o _ _ _ hbw.o hk3);clear hJ3 hk3
    gi_wp2
    repeat' (first|go_values|go_skip|go_guarded|go_step|go_upon|go_back)
    go_roundw
    case rel =>
     have h1:=HJ1.o;refine⟨k+1,by omega,?_,⟨pre++[⟨k,hlt⟩],by rw[List.map_append,HPRE.o,List.range_succ];rfl,HJ3.o⟩,HK3⟩
     congr 1;omega
    case measure=>simp [intOf]
   ·have HJX:=kp hJx3;clear hJx3
    gi_wp2
    repeat' (first|go_values|go_skip|go_guarded|go_step|go_upon|go_back)
    refine bodyPost_ret (results_none rfl _ _ _) rfl ?_;exact⟨⟨_,rfl⟩,.inr ⟨_,trivial,HJX.o⟩⟩
  ·obtain rfl:k=n:=by omega
   have hg0:decide (0≤(k:Int) - 1 - (k:Int))=false:=by simp only [decide_eq_false_iff_not];omega
   go_wp2_with fail
   go_end0
   exact⟨⟨_,rfl⟩,.inl hJ.o⟩
def Kp2(a b:Nat)(W W':World):Prop:=W'.heap[a]? = W.heap[a]?∧W'.heap[b]? = W.heap[b]?
theorem back1_stops (m : Nat) (hm : 1 ≤ m) (Bs bl n c : Nat) (A : Option Addr) (ys : List UInt8) (w : World) (hA : 1 ≤ n → A = some ⟨bl, 0, none⟩) (hn : ys.length = n) (hc : n ≤ c) (hnb : n ≤ 1000000) (hbs : Bs < w.heap.size) (hbl : bl < w.heap.size)
  (hBs:w.cell? ⟨Bs,0,none⟩=some (.slice A n c)) (hRd:∀j y,ys[j]? = some y→w.cell? ⟨bl,j,none⟩=some (B y)) :
  SeqStopsK Fence.wide m Tryz.prog 120 #[.pointer (some ⟨Bs,0,none⟩)] (fun x:Fin n=>#[.int .i64 ((n:Int) - 1 - (x.val:Int)),.int .u8 (b8 (nthB ys x.val))]) (Kp2 Bs bl) (fun xs=>xs.map Fin.val=List.range n) (fun _=>True) n w:=by
 intro l J Jx W hW hJ hJx hY h0;refine callsIn_wide.2 (back1_any m hm l Bs bl n c A ys hA hn hc hnb (Kp2 Bs bl) (fun W n=>⟨rfl,rfl⟩) (fun A B C h1 h2=>⟨h2.1.trans h1.1,h2.2.trans h1.2⟩) (fun W W' h=>World.cell?_of_block h.1) (fun W W' h _ j=>World.cell?_of_block h.2) J Jx ?_ hY W ?_ ?_ h0)
 ·intro pre W1 n h;exact hJ pre W1 _ none h ⟨rfl,rfl,rfl,Nat.le_refl _,fun _ _ _=>rfl⟩ (fun r e=>by cases e)
 ·exact(hW.cell (p:=⟨Bs,0,none⟩) (by show Bs < _;omega)).trans hBs
 ·intro j y hj;exact(hW.cell (p:=⟨bl,j,none⟩) (by show bl < _;omega)).trans (hRd j y hj)
open Go.RowKit
section
variable {P:Program} {md:Region.Mode} {ops:Array Oper} {Fut:World→World→Prop} {cl:List Nat} {Q:Exit→Act→World→Prop} {l n:Nat}
theorem oper_wpIn_round{o:Oper}{a:Act}{w:World}{K:Act→World→Prop}(hd:∀c,o.op≠.defer c)(h:o.wp P a w K Q):o.wpIn (Fence.wide.inRound l) n P a w K Q:=by
 refine⟨fun _ _=>trivial,?_⟩;rw[Oper.semAt_eq _ _ _ hd];unfold Oper.wp at h;generalize (execOp a.eval o).run P w=r at *;cases r with
 | ok x w' =>
  cases x with
  | enter f args=>exact⟨fun hd=>(by cases hd),(callsIn_wide.2 h).inRound l⟩
  | row row args=>exact⟨fun hd=>(by cases hd),fun c cs _=>let ⟨v,w',r,s⟩:=h c cs;⟨v,w',r,stepsIn_wide.2 s⟩⟩
  | round l f tmps assign body=>exact(show False from h).elim
  | _=>exact h
 | halt x w'=>cases x <;> exact h
def noDefer(o:Oper):Bool:=match o.op with|.defer _=>false|_=>true
theorem noDefer_ne{o:Oper}(h:noDefer o=true):∀c,o.op≠.defer c:=by
 intro c hc;unfold noDefer at h;rw[hc]at h;cases h
theorem wpOpIn_of_F{i:Nat}{K:Act→World→Prop}{a:Act}{w:World}(hnd:∀(i:Nat) (o:Oper),ops[i]? = some o→noDefer o=true)(hh:wpOpF P ops Fut cl i K a w):wpOpIn (Fence.wide.inRound l) n P ops Q i K a w:=by
 unfold wpOpF at hh;unfold wpOpIn;cases ho:ops[i]? with
 | none=>rw[ho]at hh;exact hh.elim
 | some o =>
  rw[ho]at hh;simp only at hh ⊢;split
  ·rename_i hw;rw[if_pos hw]at hh;refine oper_wpIn_round (noDefer_ne (hnd i o ho)) ?_;split at hh
   ·obtain⟨v,h1,h2⟩:=hh;unfold Oper.wp;rw[h1];exact h2
   ·exact oper_wp_no (fun a w h1=>h1.2) hh
  ·rename_i hw;rw[if_neg hw]at hh;exact⟨fun _ _=>trivial,hh⟩
theorem wpAnyIn_of_F(hnd:∀(i:Nat) (o:Oper),ops[i]? = some o→noDefer o=true):∀(f:Nat) (listed:Array Bool) (a:Act) (w:World),wpAnyF P md ops Fut cl Q f listed a w→wpAnyIn (Fence.wide.inRound l) n P md ops Q f listed a w
 | 0,_,_,_,h=>h
 | f+1,_,_,_,h=>⟨h.1,fun i hi=>wpOpIn_of_F hnd (wpOpF_mono (fun a w h1=>wpAnyIn_of_F hnd f _ a w h1) (h.2 i hi))⟩
end
theorem wpIn_plan {P : Program} {Q : Exit → Act → World → Prop} {lp n : Nat} {id : Nat} {a : Act} {w : World} {l : List Oper} (Fut : World → World → Prop) (cl : List Nat) (p : Plan) (hm : P.follows .mixedOrders = true) (hB : planOf l cl p = true) (hnd : l.all noDefer = true) (hrefl : ∀ w, Fut w w) (htr : ∀ w1 w2 w3, Fut w1 w2 → Fut w2 w3 → Fut w1 w3)
  (h:∀w2,Drawn w w2→wpS P l.toArray Fut cl Q p a w2):(Code.region id l.toArray true).wpIn (Fence.wide.inRound lp) n P Q a w:=by
 replace h:=h w.drew (Drawn.one w);simp only [planOf,Bool.and_eq_true]at hB
 refine wpIn_region_any hm (wpAnyIn_of_F (Fut:=Fut) (cl:=cl) (fun i o ho=>by
  rw[List.getElem?_toArray]at ho
  exact List.all_eq_true.1 hnd o (List.mem_of_getElem? ho)) _ _ _ _ ?_)
 have h0:=wpAnyF_of_plan (Q:=Q) (md:=.any) hB.1 hrefl htr p l.length [] (Array.replicate l.length false) a w.drew (fun j oj _ hj=>by
  rw[Array.getD_eq_getD_getElem?,Array.getElem?_replicate]at hj
  split at hj <;> simp at hj) hB.2 (fun j hj=>by cases hj) h
 simpa using h0
end Go.Proofs.YtnnjjbkdjkjnpaaGreatDoor

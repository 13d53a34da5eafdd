/- What spending is,in plain words: shards of outputs,what lies here,and what each call answers and leaves,over the document's coins X and locks Y. -/
import Derived.Test.YtnnjjbkdjkjnpaaGreatDoorSpendPlaysRb23
set_option linter.unusedSimpArgs false
set_option linter.unusedVariables false
set_option maxRecDepth 100000
set_option maxHeartbeats 16000000
namespace Go.Proofs.YtnnjjbkdjkjnpaaGreatDoor
open Go.RowKit Go.Maps Go.Sort Go.Shelf
def shdD(p:PtK):List UInt8:=sha (underB 10 [p.1,[UInt8.ofNat p.2.toNat]])
def shd(p:PtK)(n:Int):Int:=((valB ((shdD p).take 8) % n.toNat:Nat):Int)
def shOK(p:PtK)(n:Int):Prop:=1≤n∧n≤64∧0≤p.2∧p.2≤15
theorem shd_lt(p:PtK){n:Int}(h:1≤n):0≤shd p n∧shd p n < n:=by
 unfold shd;have:=Nat.mod_lt (valB ((shdD p).take 8)) (y:=n.toNat) (by omega);omega
theorem shd_one(p:PtK):shd p 1=0:=by have:=shd_lt p (n:=1) (by omega);omega
def placesI(l:List Int)(v:Int):List Nat:=(List.range l.length).filter fun i=>decide (l[i]?.getD 0=v)
theorem placesI_snoc(l:List Int)(x v:Int):placesI (l++[x]) v=placesI l v++(if x=v then [l.length] else []):=by
 unfold placesI;rw[List.length_append,List.length_singleton,List.range_succ,List.filter_append]
 congr 1
 ·refine List.filter_congr fun i hi=>?_
  rw[List.getElem?_append_left (by simpa using hi)]
 ·by_cases h:x=v
  ·rw[if_pos h];simp [h]
  ·rw[if_neg h];simp [h]
theorem placesI_lt{l:List Int}{v:Int}{k:Nat}(h:k∈placesI l v):k < l.length:=by
 unfold placesI at h;have:=(List.mem_filter.1 h).1;simpa using this
theorem placesI_len(l:List Int)(v:Int):(placesI l v).length≤l.length:=by
 unfold placesI;have:=List.length_filter_le (fun i=>decide (l[i]?.getD 0=v)) (List.range l.length);simpa using this
def spT(t:Txn)(n:Int):Prop:=checkT t=0∧1≤n∧n≤64
instance (t:Txn) (n:Int):Decidable (spT t n):=by unfold spT;infer_instance
def shrI(t:Txn)(n:Int):List Int:=if spT t n then t.ins.map (fun i=>shd i.pt n) else []
def shrO(t:Txn)(n:Int):List Int:=if spT t n then(List.range t.outs.length).map (fun k:Nat=>shd (tidB t,(k:Int)) n) else []
def hereI(t:Txn)(n me:Int):List Nat:=placesI (shrI t n) me
def hereO(t:Txn)(n me:Int):List Nat:=placesI (shrO t n) me
theorem shrI_len(t:Txn)(n:Int):(shrI t n).length≤16:=by
 unfold shrI;split
 ·rename_i h;have:=(right_of h.1).1;simpa using this
 ·simp
theorem shrO_len(t:Txn)(n:Int):(shrO t n).length≤16:=by
 unfold shrO;split
 ·rename_i h;have:=(right_of h.1).2.1;simpa using this
 ·simp
theorem hereI_lt{t:Txn}{n me:Int}{k:Nat}(h:k∈hereI t n me):k < t.ins.length:=by
 have:=placesI_lt h;unfold shrI at this;split at this
 ·simpa using this
 ·simp at this
theorem hereO_lt{t:Txn}{n me:Int}{k:Nat}(h:k∈hereO t n me):k < t.outs.length:=by
 have:=placesI_lt h;unfold shrO at this;split at this
 ·simpa using this
 ·simp at this
theorem hereI_len(t:Txn)(n me:Int):(hereI t n me).length≤16:=Nat.le_trans (placesI_len _ _) (shrI_len t n)
theorem hereO_len(t:Txn)(n me:Int):(hereO t n me).length≤16:=Nat.le_trans (placesI_len _ _) (shrO_len t n)
def inputE(X:CoinsL)(Y:LocksL)(i:Inp):Int:=
 if(lookL Y i.pt).isSome then 14 else match lookC X i.pt with
  | none=>13
  | some c=>if c.1≠ownerB i.secret then 10 else if c.2≠i.amount then 15 else 0
def w64(a:Int):Int:=IntKind.u64.wrap a
def sumsR(X:CoinsL)(Y:LocksL)(ins:List Inp):List Nat→Int→Int×Int
 |[],s=>(s,0)
 | k::r,s=>match ins[k]? with
  | none=>(0,0)
  | some i=>if inputE X Y i≠0 then(0,inputE X Y i) else sumsR X Y ins r (w64 (s+i.amount))
def inputsR(X:CoinsL)(Y:LocksL)(t:Txn)(n me:Int):Int×Int:=
 if checkT t≠0 then(0,checkT t) else if hereI t n me=[] then(0,11) else sumsR X Y t.ins (hereI t n me) 0
def ptsOf(ins:List Inp)(ks:List Nat):List PtK:=ks.filterMap fun k=>(ins[k]?).map Inp.pt
def cutsC(X:CoinsL):List PtK→CoinsL
 |[]=>X
 | p::r=>cutsC (cutC X p) r
def payX(X:CoinsL)(Y:LocksL)(t:Txn)(n me:Int):CoinsL:=if(inputsR X Y t n me).2≠0 then X else cutsC X (ptsOf t.ins (hereI t n me))
def heldK(Y:LocksL)(id:List UInt8):LocksL:=Y.filter fun e=>decide (e.2.2=id)
def restK(Y:LocksL)(id:List UInt8):LocksL:=Y.filter fun e=>!decide (e.2.2=id)
def sumW(l:List Int)(s:Int):Int:=l.foldl (fun s a=>w64 (s+a)) s
def freeR(Y:LocksL)(id:List UInt8):Int:=sumW ((heldK Y id).map fun e=>e.2.1.2) 0
theorem sumsR_step {X : CoinsL} {Y : LocksL} {ins : List Inp} {ks : List Nat} {k j : Nat} {i : Inp} {s : Int} (hk : ks[k]? = some j) (hj : ins[j]? = some i) :
  sumsR X Y ins (ks.drop k) s=if inputE X Y i≠0 then(0,inputE X Y i) else sumsR X Y ins (ks.drop (k+1)) (w64 (s+i.amount)):=by
 obtain⟨hl,he⟩:=List.getElem?_eq_some_iff.1 hk;rw[List.drop_eq_getElem_cons hl,he];simp only [sumsR,hj]
def mintsR(id:List UInt8)(outs:List Outp):List Nat→CoinsL→Int→CoinsL×Int×Int
 |[],X,s=>(X,s,0)
 | k::r,X,s=>match outs[k]? with
  | none=>(X,0,0)
  | some o=>if(rputC X (id,(k:Int)) (o.owner,o.amount)).2≠0 then(X,0,(rputC X (id,(k:Int)) (o.owner,o.amount)).2) else mintsR id outs r (rputC X (id,(k:Int)) (o.owner,o.amount)).1 (w64 (s+o.amount))
def mintR(X:CoinsL)(t:Txn)(n me:Int):CoinsL×Int×Int:=
 if checkT t≠0 then(X,0,checkT t) else if hereO t n me=[] then(X,0,11) else
 if(mintsR (tidB t) t.outs (hereO t n me) X 0).2.2≠0 then(X,0,(mintsR (tidB t) t.outs (hereO t n me) X 0).2.2) else mintsR (tidB t) t.outs (hereO t n me) X 0
theorem mintsR_step {id : List UInt8} {outs : List Outp} {ks : List Nat} {k j : Nat} {o : Outp} {X : CoinsL} {s : Int} (hk : ks[k]? = some j) (hj : outs[j]? = some o) :
  mintsR id outs (ks.drop k) X s=if(rputC X (id,(j:Int)) (o.owner,o.amount)).2≠0 then(X,0,(rputC X (id,(j:Int)) (o.owner,o.amount)).2) else mintsR id outs (ks.drop (k+1)) (rputC X (id,(j:Int)) (o.owner,o.amount)).1 (w64 (s+o.amount)):=by
 obtain⟨hl,he⟩:=List.getElem?_eq_some_iff.1 hk;rw[List.drop_eq_getElem_cons hl,he];simp only [mintsR,hj]
def locksR(id:List UInt8)(ins:List Inp):List Nat→CoinsL→LocksL→CoinsL×LocksL
 |[],X,Y=>(X,Y)
 | k::r,X,Y=>match ins[k]? with
  | none=>(X,Y)
  | some i=>locksR id ins r (cutC X i.pt) (rputK Y i.pt ((lookC X i.pt).getD noCoin,id)).1
def lockR(X:CoinsL)(Y:LocksL)(t:Txn)(n me:Int):(CoinsL×LocksL)×Int×Int:=
 if(inputsR X Y t n me).2≠0 then((X,Y),0,(inputsR X Y t n me).2) else if 64 < Y.length+(hereI t n me).length then((X,Y),0,18)
 else if 4611686018427387904 - amtK Y < (inputsR X Y t n me).1 then((X,Y),0,6) else(locksR (tidB t) t.ins (hereI t n me) X Y,(inputsR X Y t n me).1,0)
theorem locksR_step {id : List UInt8} {ins : List Inp} {ks : List Nat} {k j : Nat} {i : Inp} {X : CoinsL} {Y : LocksL} (hk : ks[k]? = some j) (hj : ins[j]? = some i) :
  locksR id ins (ks.drop k) X Y=locksR id ins (ks.drop (k+1)) (cutC X i.pt) (rputK Y i.pt ((lookC X i.pt).getD noCoin,id)).1:=by
 obtain⟨hl,he⟩:=List.getElem?_eq_some_iff.1 hk;rw[List.drop_eq_getElem_cons hl,he];simp only [locksR,hj]
def backsR:LocksL→CoinsL→CoinsL×Int
 |[],X=>(X,0)
 | e::r,X=>if(rputC X e.1 e.2.1).2≠0 then(X,(rputC X e.1 e.2.1).2) else backsR r (rputC X e.1 e.2.1).1
def backR(X:CoinsL)(Y:LocksL)(id:List UInt8):(CoinsL×LocksL)×Int×Int:=
 if heldK Y id=[] then((X,Y),0,13) else if(backsR (heldK Y id) X).2≠0 then((X,Y),0,(backsR (heldK Y id) X).2) else(((backsR (heldK Y id) X).1,restK Y id),freeR Y id,0)
theorem cutsC_step {X : CoinsL} {ins : List Inp} {ks : List Nat} {k j : Nat} {i : Inp} (hk : ks[k]? = some j) (hj : ins[j]? = some i) :
  cutsC X (ptsOf ins (ks.drop k))=cutsC (cutC X i.pt) (ptsOf ins (ks.drop (k+1))):=by
 obtain⟨hl,he⟩:=List.getElem?_eq_some_iff.1 hk;rw[List.drop_eq_getElem_cons hl,he];simp [ptsOf,hj,cutsC]
open Go.RowKit Go.Shelf
theorem byteB{x:Int}(h:0≤x∧x≤15):B (UInt8.ofNat x.toNat)=.int .u8 x:=by
 unfold B b8;rw[UInt8.toNat_ofNat']
 congr 1;omega
theorem shdD_len(p:PtK):(shdD p).length=32:=sha_length _
theorem mof_yes (p : PtK) (n : Int) (w : World) (hp : PtOK p) (hs : shOK p n) (ht : Tabs w) :
  Calls Tryz.prog 97 #[ptA p,.int .i64 n] w fun e w'=>e=.returned (.tuple #[.int .i64 (shd p n),.bool true])∧Below w.heap.size w w':=by
 obtain⟨zs,hzs⟩:=xe ((shdD p).map B);have HD:=kq (Dig zs (sha (underB 10 [p.1,[UInt8.ofNat p.2.toNat]]))) ⟨hzs,sha_length _⟩;have HDL:=kp (shdD_len p);have HZS:=kp hzs;have HBB:=kp (byteB (x:=p.2) ⟨hs.2.2.1,hs.2.2.2⟩);have HPL:=kp hp.1;have HXC:=kp (ptV_cl hp);have HX1:=kp (ptV_ix hp.1);have HSH:=kq (shd p n=((valB ((shdD p).take 8) % n.toNat:Nat):Int)) rfl;have HT:=kp ht;have HXS:=kp (fun w (g:Nat) (h:At w g 69 33 (ptV p))=>show Sl w w.heap.size 1 (some ⟨g,0,none⟩) 32 (p.1.map B) from h.blk.ptSl hp.1);obtain⟨h1,h2,h3,h4⟩:=hs;obtain⟨ds,hds⟩:=xe (shdD p);rw[← hds]at HDL HZS HSH;obtain⟨sv,hsv⟩:=xe (shd p n);rw[← hsv]at HSH ⊢;unfold ptA;obtain⟨xs,hxs⟩:=xe (ptV p);rw[← hxs]at HXC HX1 HXS ⊢;obtain⟨ix,hix⟩:=xe p.2;obtain⟨pid,hpid⟩:=xe p.1;rw[← hix]at h3 h4 HX1 HBB HD;rw[← hpid]at HPL HXS HD;have HB:=kp (Below.refl w.heap.size w);have e1:¬ (n < 1):=by omega
 have e2:¬ (64 < n):=by omega
 have e3:¬ (ix < 0):=by omega
 have e4:¬ (16≤ix):=by omega
 have e5:IntKind.u8.wrap ix=ix:=by rw[IntKind.wrap_u8];omega
 clear hp ht hzs hds hsv hxs hix hpid
 go_enter Tryz.func97,Tryz.ntmps97
 go_wp2_with (with_reducible first|refine wpl_box (o:=⟨some 2,_,_,_,_,_⟩) rfl rfl rfl ?_);intro v_ b_ y_ s_;have HX_:=kp (at_mk b_ HXC.o.len);clear b_ s_;replace HB:=kp (HB.o.grow' y_);replace HT:=kp (HT.o.grow y_);have HP:=HX_;clear y_ HX_;try clear w_
 rename World=>w_;have c1:=HP.o.blk.at_ HX1.o
 go_upto_region 3 with fail
 try go_wp2_with fail
 repeat' (first|(with_reducible refine wpp (id:=3) Grow [0,0,0,1,0,3,3,3,4,3] (.get 0 (.get 1 (.get 2 (.get 3 (.get 4 (.fork 5 (.fork 6 (.fork 7 (.act 8 (.act 9 .done)) (.act 8 (.act 7 (.act 9 .done)))) (.act 8 (.act 6 (.act 7 (.act 9 .done))))) (.act 8 (.act 5 (.act 6 (.act 7 (.act 9 .done))))))))))) Grow.refl Grow.trans ?_)|go_values|go_skip|go_guarded|go_step|go_upon|go_back)
 intro w_ hd_;have y_:=hd_.grow;replace HB:=kp (HB.o.grow' y_);replace HP:=kp (HP.o.grow y_);replace HT:=kp (HT.o.grow y_);clear y_ hd_;have c2:=HP.o.blk.at_ HX1.o;repeat (first|(refine plc (fun K hK=>?_);go_simp;refine hK _ _ ?_;clear hK K)|(refine pls (fun K hK=>?_);go_simp;refine hK _ _ ?_;clear hK K)|(refine psa (fun K hK=>?_);go_simp;refine hK _ _ ?_;clear hK K)|(refine pl_load rfl rfl (by first|exact wanted_none rfl|(go_simp;done)|rfl) rfl (by first|rfl|(go_simp;rfl)) (by kernel_rfl) (by first|exact c2) (fun K hK=>?_);go_simp;refine hK _ _ ?_;clear hK K)|(refine pl_loadnow rfl rfl (by first|exact wanted_none rfl|(go_simp;done)|rfl) rfl (by first|rfl|(go_simp;rfl)) (by kernel_rfl) (by first|exact c2) (fun K hK=>?_);go_simp;refine hK _ _ ?_;clear hK K))
 clear c2;refine pl_fork rfl (by first|exact wanted_none rfl|(go_simp;done)|rfl) (fun K hK=>?_) ?_
 ·skip
  go_wp2_with fail;generalize hw_:World.alloc w_ _=v_;obtain⟨hX_,y_,hs_⟩:=alloc_eq hw_;generalize x_:w_.heap.size=gm at hX_ hs_ ⊢;refine hK _ _ (fun _=>y_) ?_;have HM:=kp hX_;clear hK K hw_ hX_;replace HB:=kp (HB.o.grow' y_);replace HP:=kp (HP.o.grow y_);replace HT:=kp (HT.o.grow y_);clear y_ x_ hs_;try clear w_
  rename World=>w_;repeat (first|(refine pls (fun K hK=>?_);go_simp;refine hK _ _ ?_;clear hK K)|(refine psa (fun K hK=>?_);go_simp;refine hK _ _ ?_;clear hK K))
  replace HM:=kq (Blk w_ gm 5 ([UInt8.ofNat ix.toNat].map B)) (by rw[List.map_cons,List.map_nil,HBB.o];exact HM.o);refine pl_fork rfl (by first|exact wanted_none rfl|(go_simp;done)|rfl) (fun K hK=>?_) ?_
  ·skip
   go_wp2_with fail;generalize hw_:World.alloc w_ _=v_;obtain⟨hX_,y_,hs_⟩:=alloc_eq hw_;generalize x_:w_.heap.size=gr at hX_ hs_ ⊢;refine hK _ _ (fun _=>y_) ?_;have HR:=kp hX_;clear hK K hw_ hX_;replace HB:=kp (HB.o.grow' y_);replace HP:=kp (HP.o.grow y_);replace HT:=kp (HT.o.grow y_);replace HM:=kp (HM.o.grow y_);clear y_ x_ hs_;try clear w_
   rename World=>w_;repeat (first|(refine pls (fun K hK=>?_);go_simp;refine hK _ _ ?_;clear hK K)|(refine psa (fun K hK=>?_);go_simp;refine hK _ _ ?_;clear hK K))
   replace HR:=kq (Blk w_ gr 70 [.slice (some ⟨w.heap.size,0,none⟩) 32 32,.slice (some ⟨gm,0,none⟩) 1 1]) HR.o;refine pl_fork rfl (by first|exact wanted_none rfl|(go_simp;done)|rfl) (fun K hK=>?_) ?_
   ·skip
    have HPP:=kp (show Parts w_ w_.heap.size (some ⟨gr,0,none⟩) 2 [(.slice (some ⟨w.heap.size,0,none⟩) 32 32,pid),(.slice (some ⟨gm,0,none⟩) 1 1,[UInt8.ofNat ix.toNat])] from
     parts_blk HR.o rfl (by intro p hp;simp only [List.mem_cons,List.not_mem_nil,or_false]at hp;rcases hp with rfl|rfl;exact part_mk (HXS.o _ _ HP.o) (by omega);exact part_mk (HM.o.sl (by simp)) (by omega)))
    go_wp2_with fail;refine(under_any 10 _ _ _ [(.slice (some ⟨w.heap.size,0,none⟩) 32 32,pid),(.slice (some ⟨gm,0,none⟩) 1 1,[UInt8.ofNat ix.toNat])] HD.o _ HPP.o (by omega) (by intro p hp;simp only [List.mem_cons,List.not_mem_nil,or_false]at hp;rcases hp with rfl|rfl;(show pid.length≤_;rw[HPL.o];omega);(show List.length [_]≤_;simp)) HT.o).mono ?_;rintro e v_ ⟨rfl,y_⟩;go_wp2_with fail;refine hK _ _ (fun _=>y_) ?_;clear hK K HPP;replace HB:=kp (HB.o.grow' y_);clear y_;try clear w_
    rename World=>w_;repeat (first|(refine pls (fun K hK=>?_);go_simp;refine hK _ _ ?_;clear hK K)|(refine psa (fun K hK=>?_);go_simp;refine hK _ _ ?_;clear hK K))
    refine pl_act rfl (by first|exact wanted_none rfl|(go_simp;done)|rfl) (fun K hK=>?_);have HG:=kp HB.o.size;show wpList _ _ _ [⟨some _,.alloc _,_,_,_,_⟩] _ _
    go_wp2_with (with_reducible first|refine wpl_alloc (o:=⟨some 6,_,_,_,_,_⟩) rfl rfl zero_id ?_);intro v_ b_ y_ s_;have HV:=kp (at_mk b_ len_id);generalize x_:w_.heap.size=gD at HV HG ⊢;go_wp2_with fail;refine hK _ _ (fun _=>y_) ?_;clear hK K b_ s_ x_;replace HB:=kp (HB.o.grow' y_);clear y_;try clear w_
    rename World=>w_;repeat (first|(refine pls (fun K hK=>?_);go_simp;refine hK _ _ ?_;clear hK K)|(refine psa (fun K hK=>?_);go_simp;refine hK _ _ ?_;clear hK K))
    refine pl_act rfl (by first|exact wanted_none rfl|(go_simp;done)|rfl) (fun K hK=>?_);show wpList _ _ _ [⟨none,.store _ _ _,_,_,_,_⟩] _ _
    go_wp2_with (with_reducible refine wsb row_id HV.o.blk HV.o.len HD.o.len HD.o.one ?_);intro v_ b_ g_ s_;replace HB:=kp (put_below HB.o HG.o g_);replace HV:=kp (at_mk b_ HD.o.len);clear b_ g_ s_;try clear w_
    rename World=>w_;go_wp2_with fail;refine hK _ _ (fun h=>by cases h) ?_;clear hK K;repeat (first|(refine pls (fun K hK=>?_);go_simp;refine hK _ _ ?_;clear hK K)|(refine psa (fun K hK=>?_);go_simp;refine hK _ _ ?_;clear hK K))
    refine pl_done ?_;go_wp2_with fail;go_loopw [7,36] (fun s7 iv wr=>∃j:Nat,j≤8∧iv=.int .i64 j∧s7=.int .u64 ((valB (ds.take j):Nat):Int)∧wr=w_) (fun _ iv _=>8 - (intOf iv).toNat)
    case atStart=>exact⟨0,Nat.zero_le _,rfl,rfl,rfl⟩
    case round =>
     obtain⟨j,hj,rfl,rfl,rfl⟩:=hrel;by_cases hlt:j < 8
     ·obtain⟨c,hcj⟩:∃c,ds[j]? = some c:=⟨_,List.getElem?_eq_getElem (by rw[HDL.o];omega)⟩;obtain⟨cn,hcn⟩:=xe c.toNat;have hc256:cn < 256:=by rw[hcn];exact c.toNat_lt
      have hc3:wr.cell? ⟨gD,j,none⟩=some (.int .u8 (cn:Int)):=by
       rw[hcn];have h:=HV.o.blk.at_ (i:=j) (show zs[j]? = some (.int .u8 (b8 c)) by rw[HZS.o,List.getElem?_map,hcj];rfl);exact h
      have HC:=kp hcj;have HCN:=kp hcn;obtain⟨v,hv⟩:=xe (valB (ds.take j));have HVV:=kp hv
      have hv64:v*256+255≤18446744073709551615:=by
       have:=valB_lt 7 (ds.take j) (by rw[List.length_take];omega);rw[← hv]at this;omega
      rw[← hv];clear hcj hcn hv;have s1:=shl_u64 v (by omega);have s2:IntKind.u64.wrap (cn:Int)=(cn:Int):=by rw[IntKind.wrap_u64];omega
      have HST:=kp (show bits BinOp.or IntKind.u64 ((v:Int)*256) (cn:Int)=((valB (ds.take (j+1)):Nat):Int) by
       rw[or_u64 v cn hc256 hv64,take_snoc HC.o,valB_snoc,← HVV.o,HCN.o])
      go_wp2_with fail;go_roundw
      case rel=>exact⟨j+1,by omega,by go_num,by rw[HST.o],by first|trivial|rfl⟩
      case measure=>simp [intOf];omega
     ·obtain rfl:j=8:=by omega
      obtain⟨vn,hvn⟩:=xe (valB (ds.take 8));have hv64:vn≤18446744073709551615:=by rw[hvn];exact valB_64 (by rw[List.length_take];omega)
      rw[← hvn];rw[← hvn]at HSH;clear hvn;obtain⟨nn,rfl⟩:∃nn:Nat,n=(nn:Int):=⟨n.toNat,by omega⟩;have q1:IntKind.u64.wrap (nn:Int)=(nn:Int):=by rw[IntKind.wrap_u64];omega
      have hne:¬ ((nn:Int)=0):=by omega
      have q0:((nn:Int) == 0)=false:=by simp;omega
      have q2:Int.tmod (vn:Int) (nn:Int)=((vn % nn:Nat):Int):=by
       rw[Int.tmod_eq_emod_of_nonneg (by omega)];omega
      have q5:vn % nn < 64:=by have:=Nat.mod_lt vn (y:=nn) (by omega);omega
      obtain⟨md,hmd⟩:=xe (vn % nn);rw[← hmd]at q2 q5;have q3:IntKind.u64.wrap (md:Int)=(md:Int):=by rw[IntKind.wrap_u64];omega
      have q4:IntKind.i64.wrap (md:Int)=(md:Int):=by rw[IntKind.wrap_i64];omega
      have HSV:=kq (sv=(md:Int)) (by rw[HSH.o,hmd];rfl);clear hmd;go_wp2_with fail
      go_ret2
      exact⟨by rw[HSV.o];rfl,HB.o⟩
   ·skip
    refine pl_act rfl (by first|exact wanted_none rfl|(go_simp;done)|rfl) (fun K hK=>?_);have HG:=kp HB.o.size;show wpList _ _ _ [⟨some _,.alloc _,_,_,_,_⟩] _ _
    go_wp2_with (with_reducible first|refine wpl_alloc (o:=⟨some 6,_,_,_,_,_⟩) rfl rfl zero_id ?_);intro v_ b_ y_ s_;have HV:=kp (at_mk b_ len_id);generalize x_:w_.heap.size=gD at HV HG ⊢;go_wp2_with fail;refine hK _ _ (fun _=>y_) ?_;clear hK K b_ s_ x_;replace HB:=kp (HB.o.grow' y_);replace HP:=kp (HP.o.grow y_);replace HT:=kp (HT.o.grow y_);replace HM:=kp (HM.o.grow y_);replace HR:=kp (HR.o.grow y_);clear y_;try clear w_
    rename World=>w_;repeat (first|(refine pls (fun K hK=>?_);go_simp;refine hK _ _ ?_;clear hK K)|(refine psa (fun K hK=>?_);go_simp;refine hK _ _ ?_;clear hK K))
    refine pl_act rfl (by first|exact wanted_none rfl|(go_simp;done)|rfl) (fun K hK=>?_)
    have HPP:=kp (show Parts w_ w_.heap.size (some ⟨gr,0,none⟩) 2 [(.slice (some ⟨w.heap.size,0,none⟩) 32 32,pid),(.slice (some ⟨gm,0,none⟩) 1 1,[UInt8.ofNat ix.toNat])] from
     parts_blk HR.o rfl (by intro p hp;simp only [List.mem_cons,List.not_mem_nil,or_false]at hp;rcases hp with rfl|rfl;exact part_mk (HXS.o _ _ HP.o) (by omega);exact part_mk (HM.o.sl (by simp)) (by omega)))
    go_wp2_with fail;refine(under_any 10 _ _ _ [(.slice (some ⟨w.heap.size,0,none⟩) 32 32,pid),(.slice (some ⟨gm,0,none⟩) 1 1,[UInt8.ofNat ix.toNat])] HD.o _ HPP.o (by omega) (by intro p hp;simp only [List.mem_cons,List.not_mem_nil,or_false]at hp;rcases hp with rfl|rfl;(show pid.length≤_;rw[HPL.o];omega);(show List.length [_]≤_;simp)) HT.o).mono ?_;rintro e v_ ⟨rfl,y_⟩;go_wp2_with fail;refine hK _ _ (fun _=>y_) ?_;clear hK K HPP;replace HB:=kp (HB.o.grow' y_);replace HV:=kp (HV.o.grow y_);clear y_;try clear w_
    rename World=>w_;repeat (first|(refine pls (fun K hK=>?_);go_simp;refine hK _ _ ?_;clear hK K)|(refine psa (fun K hK=>?_);go_simp;refine hK _ _ ?_;clear hK K))
    refine pl_act rfl (by first|exact wanted_none rfl|(go_simp;done)|rfl) (fun K hK=>?_);show wpList _ _ _ [⟨none,.store _ _ _,_,_,_,_⟩] _ _
    go_wp2_with (with_reducible refine wsb row_id HV.o.blk HV.o.len HD.o.len HD.o.one ?_);intro v_ b_ g_ s_;replace HB:=kp (put_below HB.o HG.o g_);replace HV:=kp (at_mk b_ HD.o.len);clear b_ g_ s_;try clear w_
    rename World=>w_;go_wp2_with fail;refine hK _ _ (fun h=>by cases h) ?_;clear hK K;repeat (first|(refine pls (fun K hK=>?_);go_simp;refine hK _ _ ?_;clear hK K)|(refine psa (fun K hK=>?_);go_simp;refine hK _ _ ?_;clear hK K))
    refine pl_done ?_;go_wp2_with fail;go_loopw [7,36] (fun s7 iv wr=>∃j:Nat,j≤8∧iv=.int .i64 j∧s7=.int .u64 ((valB (ds.take j):Nat):Int)∧wr=w_) (fun _ iv _=>8 - (intOf iv).toNat)
    case atStart=>exact⟨0,Nat.zero_le _,rfl,rfl,rfl⟩
    case round =>
     obtain⟨j,hj,rfl,rfl,rfl⟩:=hrel;by_cases hlt:j < 8
     ·obtain⟨c,hcj⟩:∃c,ds[j]? = some c:=⟨_,List.getElem?_eq_getElem (by rw[HDL.o];omega)⟩;obtain⟨cn,hcn⟩:=xe c.toNat;have hc256:cn < 256:=by rw[hcn];exact c.toNat_lt
      have hc3:wr.cell? ⟨gD,j,none⟩=some (.int .u8 (cn:Int)):=by
       rw[hcn];have h:=HV.o.blk.at_ (i:=j) (show zs[j]? = some (.int .u8 (b8 c)) by rw[HZS.o,List.getElem?_map,hcj];rfl);exact h
      have HC:=kp hcj;have HCN:=kp hcn;obtain⟨v,hv⟩:=xe (valB (ds.take j));have HVV:=kp hv
      have hv64:v*256+255≤18446744073709551615:=by
       have:=valB_lt 7 (ds.take j) (by rw[List.length_take];omega);rw[← hv]at this;omega
      rw[← hv];clear hcj hcn hv;have s1:=shl_u64 v (by omega);have s2:IntKind.u64.wrap (cn:Int)=(cn:Int):=by rw[IntKind.wrap_u64];omega
      have HST:=kp (show bits BinOp.or IntKind.u64 ((v:Int)*256) (cn:Int)=((valB (ds.take (j+1)):Nat):Int) by
       rw[or_u64 v cn hc256 hv64,take_snoc HC.o,valB_snoc,← HVV.o,HCN.o])
      go_wp2_with fail;go_roundw
      case rel=>exact⟨j+1,by omega,by go_num,by rw[HST.o],by first|trivial|rfl⟩
      case measure=>simp [intOf];omega
     ·obtain rfl:j=8:=by omega
      obtain⟨vn,hvn⟩:=xe (valB (ds.take 8));have hv64:vn≤18446744073709551615:=by rw[hvn];exact valB_64 (by rw[List.length_take];omega)
      rw[← hvn];rw[← hvn]at HSH;clear hvn;obtain⟨nn,rfl⟩:∃nn:Nat,n=(nn:Int):=⟨n.toNat,by omega⟩;have q1:IntKind.u64.wrap (nn:Int)=(nn:Int):=by rw[IntKind.wrap_u64];omega
      have hne:¬ ((nn:Int)=0):=by omega
      have q0:((nn:Int) == 0)=false:=by simp;omega
      have q2:Int.tmod (vn:Int) (nn:Int)=((vn % nn:Nat):Int):=by
       rw[Int.tmod_eq_emod_of_nonneg (by omega)];omega
      have q5:vn % nn < 64:=by have:=Nat.mod_lt vn (y:=nn) (by omega);omega
      obtain⟨md,hmd⟩:=xe (vn % nn);rw[← hmd]at q2 q5;have q3:IntKind.u64.wrap (md:Int)=(md:Int):=by rw[IntKind.wrap_u64];omega
      have q4:IntKind.i64.wrap (md:Int)=(md:Int):=by rw[IntKind.wrap_i64];omega
      have HSV:=kq (sv=(md:Int)) (by rw[HSH.o,hmd];rfl);clear hmd;go_wp2_with fail
      go_ret2
      exact⟨by rw[HSV.o];rfl,HB.o⟩
  ·skip
   refine pl_act rfl (by first|exact wanted_none rfl|(go_simp;done)|rfl) (fun K hK=>?_);have HG:=kp HB.o.size;show wpList _ _ _ [⟨some _,.alloc _,_,_,_,_⟩] _ _
   go_wp2_with (with_reducible first|refine wpl_alloc (o:=⟨some 6,_,_,_,_,_⟩) rfl rfl zero_id ?_);intro v_ b_ y_ s_;have HV:=kp (at_mk b_ len_id);generalize x_:w_.heap.size=gD at HV HG ⊢;go_wp2_with fail;refine hK _ _ (fun _=>y_) ?_;clear hK K b_ s_ x_;replace HB:=kp (HB.o.grow' y_);replace HP:=kp (HP.o.grow y_);replace HT:=kp (HT.o.grow y_);replace HM:=kp (HM.o.grow y_);clear y_;try clear w_
   rename World=>w_;repeat (first|(refine pls (fun K hK=>?_);go_simp;refine hK _ _ ?_;clear hK K)|(refine psa (fun K hK=>?_);go_simp;refine hK _ _ ?_;clear hK K))
   refine pl_act rfl (by first|exact wanted_none rfl|(go_simp;done)|rfl) (fun K hK=>?_);go_wp2_with fail;generalize hw_:World.alloc w_ _=v_;obtain⟨hX_,y_,hs_⟩:=alloc_eq hw_;generalize x_:w_.heap.size=gr at hX_ hs_ ⊢;refine hK _ _ (fun _=>y_) ?_;have HR:=kp hX_;clear hK K hw_ hX_;replace HB:=kp (HB.o.grow' y_);replace HP:=kp (HP.o.grow y_);replace HT:=kp (HT.o.grow y_);replace HM:=kp (HM.o.grow y_);replace HV:=kp (HV.o.grow y_);clear y_ x_ hs_;try clear w_
   rename World=>w_;repeat (first|(refine pls (fun K hK=>?_);go_simp;refine hK _ _ ?_;clear hK K)|(refine psa (fun K hK=>?_);go_simp;refine hK _ _ ?_;clear hK K))
   replace HR:=kq (Blk w_ gr 70 [.slice (some ⟨w.heap.size,0,none⟩) 32 32,.slice (some ⟨gm,0,none⟩) 1 1]) HR.o;refine pl_act rfl (by first|exact wanted_none rfl|(go_simp;done)|rfl) (fun K hK=>?_)
   have HPP:=kp (show Parts w_ w_.heap.size (some ⟨gr,0,none⟩) 2 [(.slice (some ⟨w.heap.size,0,none⟩) 32 32,pid),(.slice (some ⟨gm,0,none⟩) 1 1,[UInt8.ofNat ix.toNat])] from
    parts_blk HR.o rfl (by intro p hp;simp only [List.mem_cons,List.not_mem_nil,or_false]at hp;rcases hp with rfl|rfl;exact part_mk (HXS.o _ _ HP.o) (by omega);exact part_mk (HM.o.sl (by simp)) (by omega)))
   go_wp2_with fail;refine(under_any 10 _ _ _ [(.slice (some ⟨w.heap.size,0,none⟩) 32 32,pid),(.slice (some ⟨gm,0,none⟩) 1 1,[UInt8.ofNat ix.toNat])] HD.o _ HPP.o (by omega) (by intro p hp;simp only [List.mem_cons,List.not_mem_nil,or_false]at hp;rcases hp with rfl|rfl;(show pid.length≤_;rw[HPL.o];omega);(show List.length [_]≤_;simp)) HT.o).mono ?_;rintro e v_ ⟨rfl,y_⟩;go_wp2_with fail;refine hK _ _ (fun _=>y_) ?_;clear hK K HPP;replace HB:=kp (HB.o.grow' y_);replace HV:=kp (HV.o.grow y_);clear y_;try clear w_
   rename World=>w_;repeat (first|(refine pls (fun K hK=>?_);go_simp;refine hK _ _ ?_;clear hK K)|(refine psa (fun K hK=>?_);go_simp;refine hK _ _ ?_;clear hK K))
   refine pl_act rfl (by first|exact wanted_none rfl|(go_simp;done)|rfl) (fun K hK=>?_);show wpList _ _ _ [⟨none,.store _ _ _,_,_,_,_⟩] _ _
   go_wp2_with (with_reducible refine wsb row_id HV.o.blk HV.o.len HD.o.len HD.o.one ?_);intro v_ b_ g_ s_;replace HB:=kp (put_below HB.o HG.o g_);replace HV:=kp (at_mk b_ HD.o.len);clear b_ g_ s_;try clear w_
   rename World=>w_;go_wp2_with fail;refine hK _ _ (fun h=>by cases h) ?_;clear hK K;repeat (first|(refine pls (fun K hK=>?_);go_simp;refine hK _ _ ?_;clear hK K)|(refine psa (fun K hK=>?_);go_simp;refine hK _ _ ?_;clear hK K))
   refine pl_done ?_;go_wp2_with fail;go_loopw [7,36] (fun s7 iv wr=>∃j:Nat,j≤8∧iv=.int .i64 j∧s7=.int .u64 ((valB (ds.take j):Nat):Int)∧wr=w_) (fun _ iv _=>8 - (intOf iv).toNat)
   case atStart=>exact⟨0,Nat.zero_le _,rfl,rfl,rfl⟩
   case round =>
    obtain⟨j,hj,rfl,rfl,rfl⟩:=hrel;by_cases hlt:j < 8
    ·obtain⟨c,hcj⟩:∃c,ds[j]? = some c:=⟨_,List.getElem?_eq_getElem (by rw[HDL.o];omega)⟩;obtain⟨cn,hcn⟩:=xe c.toNat;have hc256:cn < 256:=by rw[hcn];exact c.toNat_lt
     have hc3:wr.cell? ⟨gD,j,none⟩=some (.int .u8 (cn:Int)):=by
      rw[hcn];have h:=HV.o.blk.at_ (i:=j) (show zs[j]? = some (.int .u8 (b8 c)) by rw[HZS.o,List.getElem?_map,hcj];rfl);exact h
     have HC:=kp hcj;have HCN:=kp hcn;obtain⟨v,hv⟩:=xe (valB (ds.take j));have HVV:=kp hv
     have hv64:v*256+255≤18446744073709551615:=by
      have:=valB_lt 7 (ds.take j) (by rw[List.length_take];omega);rw[← hv]at this;omega
     rw[← hv];clear hcj hcn hv;have s1:=shl_u64 v (by omega);have s2:IntKind.u64.wrap (cn:Int)=(cn:Int):=by rw[IntKind.wrap_u64];omega
     have HST:=kp (show bits BinOp.or IntKind.u64 ((v:Int)*256) (cn:Int)=((valB (ds.take (j+1)):Nat):Int) by
      rw[or_u64 v cn hc256 hv64,take_snoc HC.o,valB_snoc,← HVV.o,HCN.o])
     go_wp2_with fail;go_roundw
     case rel=>exact⟨j+1,by omega,by go_num,by rw[HST.o],by first|trivial|rfl⟩
     case measure=>simp [intOf];omega
    ·obtain rfl:j=8:=by omega
     obtain⟨vn,hvn⟩:=xe (valB (ds.take 8));have hv64:vn≤18446744073709551615:=by rw[hvn];exact valB_64 (by rw[List.length_take];omega)
     rw[← hvn];rw[← hvn]at HSH;clear hvn;obtain⟨nn,rfl⟩:∃nn:Nat,n=(nn:Int):=⟨n.toNat,by omega⟩;have q1:IntKind.u64.wrap (nn:Int)=(nn:Int):=by rw[IntKind.wrap_u64];omega
     have hne:¬ ((nn:Int)=0):=by omega
     have q0:((nn:Int) == 0)=false:=by simp;omega
     have q2:Int.tmod (vn:Int) (nn:Int)=((vn % nn:Nat):Int):=by
      rw[Int.tmod_eq_emod_of_nonneg (by omega)];omega
     have q5:vn % nn < 64:=by have:=Nat.mod_lt vn (y:=nn) (by omega);omega
     obtain⟨md,hmd⟩:=xe (vn % nn);rw[← hmd]at q2 q5;have q3:IntKind.u64.wrap (md:Int)=(md:Int):=by rw[IntKind.wrap_u64];omega
     have q4:IntKind.i64.wrap (md:Int)=(md:Int):=by rw[IntKind.wrap_i64];omega
     have HSV:=kq (sv=(md:Int)) (by rw[HSH.o,hmd];rfl);clear hmd;go_wp2_with fail
     go_ret2
     exact⟨by rw[HSV.o];rfl,HB.o⟩
 ·skip
  refine pl_act rfl (by first|exact wanted_none rfl|(go_simp;done)|rfl) (fun K hK=>?_);have HG:=kp HB.o.size;show wpList _ _ _ [⟨some _,.alloc _,_,_,_,_⟩] _ _
  go_wp2_with (with_reducible first|refine wpl_alloc (o:=⟨some 6,_,_,_,_,_⟩) rfl rfl zero_id ?_);intro v_ b_ y_ s_;have HV:=kp (at_mk b_ len_id);generalize x_:w_.heap.size=gD at HV HG ⊢;go_wp2_with fail;refine hK _ _ (fun _=>y_) ?_;clear hK K b_ s_ x_;replace HB:=kp (HB.o.grow' y_);replace HP:=kp (HP.o.grow y_);replace HT:=kp (HT.o.grow y_);clear y_;try clear w_
  rename World=>w_;repeat (first|(refine pls (fun K hK=>?_);go_simp;refine hK _ _ ?_;clear hK K)|(refine psa (fun K hK=>?_);go_simp;refine hK _ _ ?_;clear hK K))
  refine pl_act rfl (by first|exact wanted_none rfl|(go_simp;done)|rfl) (fun K hK=>?_);go_wp2_with fail;generalize hw_:World.alloc w_ _=v_;obtain⟨hX_,y_,hs_⟩:=alloc_eq hw_;generalize x_:w_.heap.size=gm at hX_ hs_ ⊢;refine hK _ _ (fun _=>y_) ?_;have HM:=kp hX_;clear hK K hw_ hX_;replace HB:=kp (HB.o.grow' y_);replace HP:=kp (HP.o.grow y_);replace HT:=kp (HT.o.grow y_);replace HV:=kp (HV.o.grow y_);clear y_ x_ hs_;try clear w_
  rename World=>w_;repeat (first|(refine pls (fun K hK=>?_);go_simp;refine hK _ _ ?_;clear hK K)|(refine psa (fun K hK=>?_);go_simp;refine hK _ _ ?_;clear hK K))
  replace HM:=kq (Blk w_ gm 5 ([UInt8.ofNat ix.toNat].map B)) (by rw[List.map_cons,List.map_nil,HBB.o];exact HM.o);refine pl_act rfl (by first|exact wanted_none rfl|(go_simp;done)|rfl) (fun K hK=>?_);go_wp2_with fail;generalize hw_:World.alloc w_ _=v_;obtain⟨hX_,y_,hs_⟩:=alloc_eq hw_;generalize x_:w_.heap.size=gr at hX_ hs_ ⊢;refine hK _ _ (fun _=>y_) ?_;have HR:=kp hX_;clear hK K hw_ hX_;replace HB:=kp (HB.o.grow' y_);replace HP:=kp (HP.o.grow y_);replace HT:=kp (HT.o.grow y_);replace HV:=kp (HV.o.grow y_);replace HM:=kp (HM.o.grow y_);clear y_ x_ hs_;try clear w_
  rename World=>w_;repeat (first|(refine pls (fun K hK=>?_);go_simp;refine hK _ _ ?_;clear hK K)|(refine psa (fun K hK=>?_);go_simp;refine hK _ _ ?_;clear hK K))
  replace HR:=kq (Blk w_ gr 70 [.slice (some ⟨w.heap.size,0,none⟩) 32 32,.slice (some ⟨gm,0,none⟩) 1 1]) HR.o;refine pl_act rfl (by first|exact wanted_none rfl|(go_simp;done)|rfl) (fun K hK=>?_)
  have HPP:=kp (show Parts w_ w_.heap.size (some ⟨gr,0,none⟩) 2 [(.slice (some ⟨w.heap.size,0,none⟩) 32 32,pid),(.slice (some ⟨gm,0,none⟩) 1 1,[UInt8.ofNat ix.toNat])] from
   parts_blk HR.o rfl (by intro p hp;simp only [List.mem_cons,List.not_mem_nil,or_false]at hp;rcases hp with rfl|rfl;exact part_mk (HXS.o _ _ HP.o) (by omega);exact part_mk (HM.o.sl (by simp)) (by omega)))
  go_wp2_with fail;refine(under_any 10 _ _ _ [(.slice (some ⟨w.heap.size,0,none⟩) 32 32,pid),(.slice (some ⟨gm,0,none⟩) 1 1,[UInt8.ofNat ix.toNat])] HD.o _ HPP.o (by omega) (by intro p hp;simp only [List.mem_cons,List.not_mem_nil,or_false]at hp;rcases hp with rfl|rfl;(show pid.length≤_;rw[HPL.o];omega);(show List.length [_]≤_;simp)) HT.o).mono ?_;rintro e v_ ⟨rfl,y_⟩;go_wp2_with fail;refine hK _ _ (fun _=>y_) ?_;clear hK K HPP;replace HB:=kp (HB.o.grow' y_);replace HV:=kp (HV.o.grow y_);clear y_;try clear w_
  rename World=>w_;repeat (first|(refine pls (fun K hK=>?_);go_simp;refine hK _ _ ?_;clear hK K)|(refine psa (fun K hK=>?_);go_simp;refine hK _ _ ?_;clear hK K))
  refine pl_act rfl (by first|exact wanted_none rfl|(go_simp;done)|rfl) (fun K hK=>?_);show wpList _ _ _ [⟨none,.store _ _ _,_,_,_,_⟩] _ _
  go_wp2_with (with_reducible refine wsb row_id HV.o.blk HV.o.len HD.o.len HD.o.one ?_);intro v_ b_ g_ s_;replace HB:=kp (put_below HB.o HG.o g_);replace HV:=kp (at_mk b_ HD.o.len);clear b_ g_ s_;try clear w_
  rename World=>w_;go_wp2_with fail;refine hK _ _ (fun h=>by cases h) ?_;clear hK K;repeat (first|(refine pls (fun K hK=>?_);go_simp;refine hK _ _ ?_;clear hK K)|(refine psa (fun K hK=>?_);go_simp;refine hK _ _ ?_;clear hK K))
  refine pl_done ?_;go_wp2_with fail;go_loopw [7,36] (fun s7 iv wr=>∃j:Nat,j≤8∧iv=.int .i64 j∧s7=.int .u64 ((valB (ds.take j):Nat):Int)∧wr=w_) (fun _ iv _=>8 - (intOf iv).toNat)
  case atStart=>exact⟨0,Nat.zero_le _,rfl,rfl,rfl⟩
  case round =>
   obtain⟨j,hj,rfl,rfl,rfl⟩:=hrel;by_cases hlt:j < 8
   ·obtain⟨c,hcj⟩:∃c,ds[j]? = some c:=⟨_,List.getElem?_eq_getElem (by rw[HDL.o];omega)⟩;obtain⟨cn,hcn⟩:=xe c.toNat;have hc256:cn < 256:=by rw[hcn];exact c.toNat_lt
    have hc3:wr.cell? ⟨gD,j,none⟩=some (.int .u8 (cn:Int)):=by
     rw[hcn];have h:=HV.o.blk.at_ (i:=j) (show zs[j]? = some (.int .u8 (b8 c)) by rw[HZS.o,List.getElem?_map,hcj];rfl);exact h
    have HC:=kp hcj;have HCN:=kp hcn;obtain⟨v,hv⟩:=xe (valB (ds.take j));have HVV:=kp hv
    have hv64:v*256+255≤18446744073709551615:=by
     have:=valB_lt 7 (ds.take j) (by rw[List.length_take];omega);rw[← hv]at this;omega
    rw[← hv];clear hcj hcn hv;have s1:=shl_u64 v (by omega);have s2:IntKind.u64.wrap (cn:Int)=(cn:Int):=by rw[IntKind.wrap_u64];omega
    have HST:=kp (show bits BinOp.or IntKind.u64 ((v:Int)*256) (cn:Int)=((valB (ds.take (j+1)):Nat):Int) by
     rw[or_u64 v cn hc256 hv64,take_snoc HC.o,valB_snoc,← HVV.o,HCN.o])
    go_wp2_with fail;go_roundw
    case rel=>exact⟨j+1,by omega,by go_num,by rw[HST.o],by first|trivial|rfl⟩
    case measure=>simp [intOf];omega
   ·obtain rfl:j=8:=by omega
    obtain⟨vn,hvn⟩:=xe (valB (ds.take 8));have hv64:vn≤18446744073709551615:=by rw[hvn];exact valB_64 (by rw[List.length_take];omega)
    rw[← hvn];rw[← hvn]at HSH;clear hvn;obtain⟨nn,rfl⟩:∃nn:Nat,n=(nn:Int):=⟨n.toNat,by omega⟩;have q1:IntKind.u64.wrap (nn:Int)=(nn:Int):=by rw[IntKind.wrap_u64];omega
    have hne:¬ ((nn:Int)=0):=by omega
    have q0:((nn:Int) == 0)=false:=by simp;omega
    have q2:Int.tmod (vn:Int) (nn:Int)=((vn % nn:Nat):Int):=by
     rw[Int.tmod_eq_emod_of_nonneg (by omega)];omega
    have q5:vn % nn < 64:=by have:=Nat.mod_lt vn (y:=nn) (by omega);omega
    obtain⟨md,hmd⟩:=xe (vn % nn);rw[← hmd]at q2 q5;have q3:IntKind.u64.wrap (md:Int)=(md:Int):=by rw[IntKind.wrap_u64];omega
    have q4:IntKind.i64.wrap (md:Int)=(md:Int):=by rw[IntKind.wrap_i64];omega
    have HSV:=kq (sv=(md:Int)) (by rw[HSH.o,hmd];rfl);clear hmd;go_wp2_with fail
    go_ret2
    exact⟨by rw[HSV.o];rfl,HB.o⟩
theorem info_int:(Tryz.prog.info? 3).map (fun i=>(i.zero,i.size,i.bytes))=some (some (.int .i64 0),1,8):=by kernel_rfl
theorem el_int:ElemT Tryz.prog 91 3 1 8:=elemT Tryz.underlying91 info_int rfl (by omega)
def IntsAt(w:World)(A:Option Addr)(l:List Int):Prop:=Sl w w.heap.size 1 A l.length (l.map (Value.int .i64))
theorem IntsAt.grow{w w':World}{A:Option Addr}{l:List Int}(h:IntsAt w A l)(k:Grow w w'):IntsAt w' A l:=Sl.grow h k
theorem IntsAt.nil(w:World):IntsAt w none []:=Sl.nil
theorem IntsAt.at_{w:World}{A:Option Addr}{l:List Int}(h:IntsAt w A l){k:Nat}(hk:k < l.length):∃b off x,A=some ⟨b,off,none⟩∧b < w.heap.size∧l[k]? = some x∧w.cell? ⟨b,off+k,none⟩=some (.int .i64 x):=by
 obtain⟨b,off,u,h1,h2,h3,h4⟩:=Sl.at_ h hk;rw[List.getElem?_map,List.getElem?_eq_getElem hk]at h3;refine⟨b,off,l[k],h1,h2,List.getElem?_eq_getElem hk,?_⟩;rw[h4,← h3];rfl
def OwnZ(w:World)(base:Nat)(A:Option Addr)(n c:Nat)(l:List Int):Prop:=w.ownsRow base 3 1 (.slice A n c) n (l.map (Value.int .i64))
theorem OwnZ.grow{w w':World}{base n c:Nat}{A:Option Addr}{l:List Int}(h:OwnZ w base A n c l)(k:Grow w w'):OwnZ w' base A n c l:=own_below h k
theorem OwnZ.ints{w:World}{base n c:Nat}{A:Option Addr}{l:List Int}(h:OwnZ w base A n c l)(hn:l.length=n):IntsAt w A l:=by
 unfold IntsAt;rw[hn];exact Sl.of_own h
theorem OwnZ.snoc{w:World}{base n c:Nat}{A:Option Addr}{l:List Int}{x:Int}(h:w.ownsRow base 3 1 (.slice A n c) n (l.map (Value.int .i64)++[.int .i64 x])):OwnZ w base A n c (l++[x]):=by
 unfold OwnZ;rw[List.map_append];exact h
def NatsAt(w:World)(lo:Nat)(A:Option Addr)(ks:List Nat):Prop:=IntsAt w A (ks.map Int.ofNat)∧∀q,A.map Addr.block=some q→lo≤q
theorem OwnZ.nats{w:World}{base c:Nat}{A:Option Addr}{ks:List Nat}(h:OwnZ w base A ks.length c (ks.map Int.ofNat)):NatsAt w base A ks:=⟨OwnZ.ints h (by simp),own_from h⟩
theorem NatsAt.grow{w w':World}{lo:Nat}{A:Option Addr}{ks:List Nat}(h:NatsAt w lo A ks)(k:Grow w w'):NatsAt w' lo A ks:=⟨h.1.grow k,h.2⟩
theorem NatsAt.less{w:World}{lo lo':Nat}{A:Option Addr}{ks:List Nat}(h:NatsAt w lo A ks)(k:lo'≤lo):NatsAt w lo' A ks:=⟨h.1,fun q hq=>Nat.le_trans k (h.2 q hq)⟩
theorem NatsAt.at_{w:World}{lo:Nat}{A:Option Addr}{ks:List Nat}(h:NatsAt w lo A ks){k:Nat}(hk:k < ks.length):∃b off j,A=some ⟨b,off,none⟩∧ks[k]? = some j∧w.cell? ⟨b,off+k,none⟩=some (.int .i64 (j:Int)):=by
 obtain⟨b,off,x,h1,_,h3,h4⟩:=h.1.at_ (k:=k) (by simpa using hk);rw[List.getElem?_map,List.getElem?_eq_getElem hk]at h3;refine⟨b,off,ks[k],h1,List.getElem?_eq_getElem hk,?_⟩;rw[h4];have:x=Int.ofNat ks[k]:=by simpa using h3.symm
 rw[this];rfl
theorem Sl.touchd{w w':World}{B sz n:Nat}{A:Option Addr}{xs:List Value}{l:List Nat}(h:Sl w B sz A n xs)(ht:Touched l w w')(hB:B≤w.heap.size)(hne:∀q,A.map Addr.block=some q→q∉l):Sl w' B sz A n xs:=by
 refine⟨h.1,fun hn=>?_⟩;obtain⟨q,off,hA,hq,hcell⟩:=h.2 hn;exact⟨q,off,hA,hq,fun j u hu=>(World.cell?_of_block (w:=w) (ht.block q (by omega) (hne q (by rw[hA];rfl)))).trans (hcell j u hu)⟩
theorem NatsAt.touch{w w':World}{lo:Nat}{A:Option Addr}{ks:List Nat}{l:List Nat}(h:NatsAt w lo A ks)(ht:Touched l w w')(hl:∀x∈l,x < lo):NatsAt w' lo A ks:=
 ⟨(Sl.touchd h.1 ht (Nat.le_refl _) (fun q hq hm=>by have:=h.2 q hq;have:=hl q hm;omega)).more ht.size,h.2⟩
theorem NatsAt.off{w w':World}{lo:Nat}{A:Option Addr}{ks:List Nat}(h:NatsAt w lo A ks)(hk:∀q,A.map Addr.block=some q→0 < ks.length→w'.heap[q]? = w.heap[q]?)(hs:w.heap.size≤w'.heap.size):NatsAt w' lo A ks:=by
 refine⟨⟨h.1.1,fun hn=>?_⟩,h.2⟩;obtain⟨q,off,hA,hq,hcell⟩:=h.1.2 hn;exact⟨q,off,hA,Nat.lt_of_lt_of_le hq hs,fun j u hu=>(World.cell?_of_block (w:=w) (hk q (by rw[hA];rfl) (by simpa using hn))).trans (hcell j u hu)⟩
theorem NatsAt.first{w:World}{lo:Nat}{A:Option Addr}{ks:List Nat}(h:NatsAt w lo A ks)(hn:0 < ks.length):∃q off x,A=some ⟨q,off,none⟩∧q < w.heap.size∧w.cell? ⟨q,off,none⟩=some (.int .i64 x):=by
 obtain⟨q,off,x,h1,h2,_,h4⟩:=h.1.at_ (k:=0) (by simpa using hn);exact⟨q,off,x,h1,h2,h4⟩
theorem NatsAt.grownI{w w':World}{lo gI:Nat}{A:Option Addr}{ks:List Nat}(h:NatsAt w lo A ks)(hg:w.grownBy w' (some gI)){T:TypeId}{n:Nat}{xs:List UInt8}(hI:At w gI T n (xs.map B)):NatsAt w' lo A ks:=
 h.off (fun q hq hn=>by
  obtain⟨q',off,x,h1,h2,h3⟩:=h.first hn
  rw[h1]at hq;obtain rfl:q'=q:=Option.some.inj hq;refine hg.block q' h2 (fun e=>?_);obtain rfl:q'=gI:=Option.some.inj e;have h5:=hI.blk.cell off;rw[h3,List.getElem?_map]at h5;cases hx:xs[off]? with
  | none=>rw[hx]at h5;cases h5
  | some y=>rw[hx]at h5;cases h5) hg.size
theorem places_any {A : Option Addr} {c : Nat} {l : List Int} (v : Int) (w : World) (h : IntsAt w A l) (hn : l.length ≤ 1000000) :
  Calls Tryz.prog 68 #[.slice A l.length c,.int .i64 v] w fun e w'=>∃A' c',e=.returned (.slice A' (placesI l v).length c')∧OwnZ w' w.heap.size A' (placesI l v).length c' ((placesI l v).map Int.ofNat)∧Grow w w':=by
 have HH:=kp h;obtain⟨n,hln⟩:=xe l.length;have HLN:=kp hln;rw[← hln]at hn ⊢;obtain⟨w_,hw⟩:=xe w;have HB:=kq (Below w.heap.size w w_) (by rw[hw];exact Below.refl _ _)
 suffices H:Calls Tryz.prog 68 #[.slice A n c,.int .i64 v] w_ (fun e w'=>∃A' c',e=.returned (.slice A' (placesI l v).length c')∧OwnZ w' w.heap.size A' (placesI l v).length c' ((placesI l v).map Int.ofNat)∧Grow w w') by rw[hw]at H;exact H
 obtain⟨rs,hrs⟩:=xe (placesI l v);have HRS:=kp hrs;rw[← hrs];clear hw h hln hrs
 go_enter Tryz.func68,Tryz.ntmps68
 go_wp2_with fail;go_loopw [4,9] (fun s4 iv wr=>∃(k:Nat) (A4:Option Addr) (c4 m:Nat),k≤n∧m≤k∧iv=.int .i64 k∧s4=.slice A4 m c4∧Hid (OwnZ wr w.heap.size A4 m c4 ((placesI (l.take k) v).map Int.ofNat)∧(placesI (l.take k) v).length=m∧Below w.heap.size w wr)) (fun _ iv _=>n - (intOf iv).toNat)
 case atStart=>exact⟨0,none,0,0,by omega,by omega,rfl,rfl,kp ⟨World.ownsRow_nil _ _ _ _,rfl,HB.o⟩⟩
 case round =>
  obtain⟨k,A4,c4,m,hk,hm,rfl,rfl,hI⟩:=hrel;clear HB;have HO:=kp hI.o.1;have HPL:=kp hI.o.2.1;have HB:=kp hI.o.2.2;clear hI;rename World=>w_;by_cases hlt:k < n
  ·obtain⟨b,off,x,rfl,hb,hx,hc⟩:=(HH.o.grow HB.o).at_ (k:=k) (by rw[← HLN.o];exact hlt)
   have HSN:=kp (show placesI (l.take (k+1)) v=placesI (l.take k) v++(if x=v then [k] else []) by
    rw[take_snoc hx,placesI_snoc,List.length_take,Nat.min_eq_left (by rw[← HLN.o];omega)])
   clear hb hx;by_cases hxv:x=v
   ·have HSN2:=kq ((placesI (l.take (k+1)) v).map Int.ofNat=(placesI (l.take k) v).map Int.ofNat++[(k:Int)]) (by rw[HSN.o,if_pos hxv,List.map_append];rfl);have HSL:=kq ((placesI (l.take (k+1)) v).length=m+1) (by rw[HSN.o,if_pos hxv,List.length_append,HPL.o];rfl);obtain⟨Y,hY⟩:=xe ((placesI (l.take k) v).map Int.ofNat);rw[← hY]at HO HSN2;clear hY HSN HPL;subst hxv;have HO3:=kq (w_.ownsRow w.heap.size 3 1 (.slice A4 m c4) m (Y.map (Value.int .i64))) HO.o;have z1:(x == x)=true:=by simp
    go_wp2_with (first|(at_builtin;refine wpl_app1 rfl rfl el_int HO3.o rfl (m:=1) rfl ?_ ?_ ?_ ?_ ?_ ?_))
    ·rfl
    ·rfl
    ·omega
    ·omega
    ·exact HB.o.size
    intro A7 c7 w4_ ho_ x_ hA_;have HB_:=kp (below_grown HB.o x_ HB.o.size (own_from HO3.o));have HO_:=kq (OwnZ w4_ w.heap.size A7 (m+1) c7 (Y++[(k:Int)])) (OwnZ.snoc ho_);clear ho_ x_ hA_ HO HO3 HB;go_wp2_with fail;go_roundw
    case rel=>exact⟨k+1,A7,c7,m+1,by omega,by omega,by go_num,rfl,kp ⟨by rw[HSN2.o];exact HO_.o,HSL.o,HB_.o⟩⟩
    case measure=>simp [intOf];omega
   ·have HSN2:=kq (placesI (l.take (k+1)) v=placesI (l.take k) v) (by rw[HSN.o,if_neg hxv,List.append_nil]);have z1:(x == v)=false:=by simpa using hxv
    clear HSN;go_wp2_with fail;go_roundw
    case rel=>exact⟨k+1,A4,c4,m,by omega,by omega,by go_num,rfl,kp ⟨by rw[HSN2.o];exact HO.o,by rw[HSN2.o];exact HPL.o,HB.o⟩⟩
    case measure=>simp [intOf];omega
  ·obtain rfl:k=n:=by omega
   have HE:=kq (placesI (l.take k) v=rs) (by rw[HRS.o,List.take_of_length_le (by rw[← HLN.o];exact Nat.le_refl _)]);go_wp2_with fail;go_ret
   rw[HE.o]at HO HPL;exact⟨A4,c4,by rw[HPL.o];rfl,by rw[HPL.o];exact HO.o,HB.o⟩
section
variable {P:Program} {ops:Array Oper} {rest:List Oper} {o:Oper} {a:Act} {w:World} {Q:Exit→Act→World→Prop}
theorem wpl_buildg (hw : Region.wanted o (yielded ops a.tmps) = true) {t : TypeId} {parts : Array (Nat × Operand)} (ho : o.op = .build t parts) {cells : List Value} (h : P.built t (parts.toList.map fun (i, x) => (i, a.eval x)) = some cells.toArray)
  (hk:wpList P ops Q rest (a.put o.dst (.agg cells.toArray)) w):wpList P ops Q (o::rest) a w:=by
 refine wpl_wanted hw fun K hK=>?_
 unfold Oper.wp;rw[exec_build ho h w];exact hK _ _ hk
end
theorem zero_tx:(Tryz.prog.info? 27).map (·.zero)=some (some (.agg (txV none 0 0 none 0 0 0 0).toArray)):=by kernel_rfl
theorem len_tx:(txV none 0 0 none 0 0 0 0).length=4:=rfl
theorem built_tx0(parts:List (Nat×Value)):Tryz.prog.built 27 parts=Instr.fill (fun i=>(#[(0,1),(1,1),(2,1),(3,1)]:Array (Nat×Nat))[i]?) (txV none 0 0 none 0 0 0 0).toArray parts:=by kernel_rfl
def inp7:Inp:=⟨zeroD,0,5,[]⟩
end Go.Proofs.YtnnjjbkdjkjnpaaGreatDoor

/- The contract of locks.Put1. Printed by mklockp.py. -/
import Derived.Test.YtnnjjbkdjkjnpaaGreatDoorSpendPlaysRb26
set_option linter.unusedSimpArgs false
set_option linter.unusedVariables false
set_option maxRecDepth 100000
set_option maxHeartbeats 16000000
namespace Go.Proofs.YtnnjjbkdjkjnpaaGreatDoor
open Go.RowKit
theorem lockV_cl{x:LockV}(h:LockOK x):Cl 65 (lockV x):=⟨lockV_length h,lockV_one x⟩
theorem lockV_amt{x:LockV}(h:LockOK x):(lockV x)[32]? = some (.int .u64 x.1.2):=by have:=lock_coin (coinV_amt h.1);simpa using this
theorem LocksAt.grow{w w':World}{g b:Nat}{L:LocksL}{s:Int}(h:LocksAt w g b L s)(k:Grow w w'):LocksAt w' g b L s:=h.call k
theorem LocksAt.keptK{K:Nat→Prop}{w w':World}{g b:Nat}{L:LocksL}{s:Int}(h:LocksAt w g b L s)(k:Kept K w w')(h1:K g)(h2:K b):LocksAt w' g b L s:=by
 obtain⟨q1,⟨es,clock,q2,q3,q4⟩,q5,q6⟩:=h;exact⟨k.blk q1 h1,⟨es,clock,(k.block b h2).trans q2,q3,q4⟩,q5,q6⟩
theorem bytesq_any {res : Bool} {A A2 : Option Addr} {n c n2 c2 : Nat} {xs ys : List UInt8} (hres : decide (xs = ys) = res) (w : World) (h1 : Sl w w.heap.size 1 A n (xs.map B)) (h2 : Sl w w.heap.size 1 A2 n2 (ys.map B)) (hn : n ≤ 1000000) :
  Calls Tryz.prog 49 #[.slice A n c,.slice A2 n2 c2] w fun e w'=>e=.returned (.bool res)∧Below w.heap.size w w':=by
 have H1:=kp h1;have H2:=kp h2;have HL1:=kq (xs.length=n) (by have:=h1.len;simpa using this);have HL2:=kq (ys.length=n2) (by have:=h2.len;simpa using this);have HRES:=kp hres;clear h1 h2 hres;by_cases hnn:n=n2
 ·subst hnn;have z1:((n:Int) !=(n:Int))=false:=by simp
  go_enter Tryz.func49,Tryz.ntmps49
  go_wp2_with fail;go_loopw [5] (fun i wr=>∃k:Nat,k≤n∧i=.int .i64 k∧Hid (xs.take k=ys.take k)∧Hid (Below w.heap.size w wr)) (fun i _=>n - (intOf i).toNat)
  case atStart=>exact⟨0,by omega,rfl,kp (by simp),kp (Below.refl _ _)⟩
  case round =>
   obtain⟨k,hk,rfl,heq,hbw⟩:=hrel;by_cases hlt:k < n
   ·have HB:=hbw;have H1A:=kp ((H1.o.below HB.o).more HB.o.size);have H2A:=kp ((H2.o.below HB.o).more HB.o.size);obtain⟨x,hx⟩:∃x,xs[k]? = some x:=⟨_,List.getElem?_eq_getElem (by rw[HL1.o];exact hlt)⟩;obtain⟨y,hy⟩:∃y,ys[k]? = some y:=⟨_,List.getElem?_eq_getElem (by rw[HL2.o];exact hlt)⟩;have HX:=kp hx;have HY:=kp hy;clear hx hy;by_cases hxy:x=y
    ·subst hxy;try go_wp2_with fail
     repeat' (first|(with_reducible refine wpp (id:=6) Grow [0,0,0,2,0,0,0,2,0] (.get 0 (.get 1 (.get 2 (.get 3 (.get 4 (.get 5 (.get 6 (.get 7 (.get 8 .done))))))))) Grow.refl Grow.trans ?_)|go_values|go_skip|go_guarded|go_step|go_upon|go_back)
     intro w_ hd_;have y_:=hd_.grow;replace HB:=kp (HB.o.grow' y_);replace H1A:=kp (H1A.o.grow y_);replace H2A:=kp (H2A.o.grow y_);clear y_ hd_;obtain⟨b1,o1,u1,rfl,hb1,hu1,hc1⟩:=H1A.o.at_ hlt;obtain⟨b2,o2,u2,rfl,hb2,hu2,hc2⟩:=H2A.o.at_ hlt;obtain rfl:u1=.int .u8 (b8 x):=by rw[List.getElem?_map,HX.o]at hu1;exact(Option.some.inj hu1).symm
     obtain rfl:u2=.int .u8 (b8 x):=by rw[List.getElem?_map,HY.o]at hu2;exact(Option.some.inj hu2).symm
     clear hb1 hb2 hu1 hu2;repeat (first|(refine plc (fun K hK=>?_);go_simp;refine hK _ _ ?_;clear hK K)|(refine pls (fun K hK=>?_);go_simp;refine hK _ _ ?_;clear hK K)|(refine psa (fun K hK=>?_);go_simp;refine hK _ _ ?_;clear hK K)|(refine pl_load rfl rfl (by first|exact wanted_none rfl|(go_simp;done)|rfl) rfl (by first|rfl|(go_simp;rfl)) (by kernel_rfl) (by first|exact hc1|exact hc2) (fun K hK=>?_);go_simp;refine hK _ _ ?_;clear hK K)|(refine pl_loadnow rfl rfl (by first|exact wanted_none rfl|(go_simp;done)|rfl) rfl (by first|rfl|(go_simp;rfl)) (by kernel_rfl) (by first|exact hc1|exact hc2) (fun K hK=>?_);go_simp;refine hK _ _ ?_;clear hK K))
     refine pl_done ?_;clear hc1 hc2;have HE:=kq (xs.take (k+1)=ys.take (k+1)) (by rw[List.take_add_one,List.take_add_one,heq.o,HX.o,HY.o]);go_wp2_with fail;go_roundw
     case rel=>exact⟨k+1,by omega,by go_num,HE,HB⟩
     case measure=>simp [intOf];omega
    ·have hbb : ((b8 x) != (b8 y)) = true := by
      have:b8 x≠b8 y:=fun h=>hxy (b8_inj h)
      simpa using this
     have HF:=kp (show res=false by
      rw[← HRES.o]
      have:xs≠ys:=fun h=>by
       subst h;have h1:=HX.o;rw[HY.o]at h1;exact hxy (Option.some.inj h1).symm
      simpa using this)
     have hne:b8 x≠b8 y:=fun h=>hxy (b8_inj h)
     have hq:=eq_false hne;clear hxy;try go_wp2_with fail
     repeat' (first|(with_reducible refine wpp (id:=6) Grow [0,0,0,2,0,0,0,2,0] (.get 0 (.get 1 (.get 2 (.get 3 (.get 4 (.get 5 (.get 6 (.get 7 (.get 8 .done))))))))) Grow.refl Grow.trans ?_)|go_values|go_skip|go_guarded|go_step|go_upon|go_back)
     intro w_ hd_;have y_:=hd_.grow;replace HB:=kp (HB.o.grow' y_);replace H1A:=kp (H1A.o.grow y_);replace H2A:=kp (H2A.o.grow y_);clear y_ hd_;obtain⟨b1,o1,u1,rfl,hb1,hu1,hc1⟩:=H1A.o.at_ hlt;obtain⟨b2,o2,u2,rfl,hb2,hu2,hc2⟩:=H2A.o.at_ hlt;obtain rfl:u1=.int .u8 (b8 x):=by rw[List.getElem?_map,HX.o]at hu1;exact(Option.some.inj hu1).symm
     obtain rfl:u2=.int .u8 (b8 y):=by rw[List.getElem?_map,HY.o]at hu2;exact(Option.some.inj hu2).symm
     clear hb1 hb2 hu1 hu2;repeat (first|(refine plc (fun K hK=>?_);go_simp;refine hK _ _ ?_;clear hK K)|(refine pls (fun K hK=>?_);go_simp;refine hK _ _ ?_;clear hK K)|(refine psa (fun K hK=>?_);go_simp;refine hK _ _ ?_;clear hK K)|(refine pl_load rfl rfl (by first|exact wanted_none rfl|(go_simp;done)|rfl) rfl (by first|rfl|(go_simp;rfl)) (by kernel_rfl) (by first|exact hc1|exact hc2) (fun K hK=>?_);go_simp;refine hK _ _ ?_;clear hK K)|(refine pl_loadnow rfl rfl (by first|exact wanted_none rfl|(go_simp;done)|rfl) rfl (by first|rfl|(go_simp;rfl)) (by kernel_rfl) (by first|exact hc1|exact hc2) (fun K hK=>?_);go_simp;refine hK _ _ ?_;clear hK K))
     refine pl_done ?_;clear hc1 hc2;go_wp2_with fail;go_ret
     exact⟨by rw[HF.o];rfl,HB.o⟩
   ·obtain rfl:k=n:=by omega
    have HT:=kp (show res=true by
     rw[← HRES.o];have h:=heq.o;rw[List.take_of_length_le (by rw[HL1.o];exact Nat.le_refl _),List.take_of_length_le (by rw[HL2.o];exact Nat.le_refl _)] at h
     simpa using h)
    go_wp2_with fail;go_ret
    exact⟨by rw[HT.o];rfl,hbw.o⟩
 ·have z1:((n:Int) !=(n2:Int))=true:=by simp;omega
  have HF:=kp (show res=false by
   rw[← HRES.o];have:xs≠ys:=fun h=>by subst h;exact hnn (by rw[← HL1.o,← HL2.o])
   simpa using this)
  have hz:¬ ((n:Int)=(n2:Int)):=by omega
  have hzq:=eq_false hz
  go_enter Tryz.func49,Tryz.ntmps49
  go_wp2_with fail;go_ret
  exact⟨by rw[HF.o];rfl,Below.refl _ _⟩
open Go.RowKit Go.Maps Go.Sort Go.Shelf
theorem bytesK_le{X:LocksL}(hn:X.length≤64)(ho:∀e∈X,AtOKK e)(hx:IxOKK X):(bytesK X).length≤30000:=by
 have h1:=numB_le (n:=X.length) (by omega)
 have h2:∀Y:LocksL,(∀e∈Y,(putAtK e).length≤114)→(Y.flatMap putAtK).length≤Y.length*114:=by
  intro Y
  induction Y with
  | nil=>intro _;simp
  | cons e r ih =>
   intro h;have h3:=ih (fun x hx=>h x (List.mem_cons_of_mem _ hx));have h4:=h e (List.mem_cons_self ..);rw[List.flatMap_cons,List.length_append,List.length_cons];omega
 have h3:=h2 X (fun e he=>by
  have h4:=ho e he;have h5:=hx e he;have h6:=numB_le (n:=e.1.2.toNat) (by omega);have h7:=numB_le (n:=e.2.1.2.toNat) (by have:=h4.2.1.2;omega);unfold putAtK
  simp only [List.length_append,h4.1.1,h4.2.2,h4.2.1.1];omega)
 unfold bytesK;rw[List.length_append];omega
theorem ofK_len(X:LocksL)(id:List UInt8):(ofK X id).length≤X.length:=by unfold ofK;rw[List.length_map];exact List.length_filter_le _ _
theorem At.touchd{w w':World}{q n:Nat}{T:TypeId}{xs:List Value}{l:List Nat}(h:At w q T n xs)(ht:Touched l w w')(hq:q∉l):At w' q T n xs:=⟨(ht.block q h.lt hq).trans h.blk,h.len⟩
theorem CoinsAt.touchd{w w':World}{g b:Nat}{L:CoinsL}{s:Int}{l:List Nat}(h:CoinsAt w g b L s)(ht:Touched l w w')(h1:g∉l)(h2:b∉l):CoinsAt w' g b L s:=by
 have hg:=h.ltg;have hb:=h.ltb;obtain⟨q1,⟨es,clock,q2,q3,q4⟩,q5,q6⟩:=h;exact⟨(ht.block g hg h1).trans q1,⟨es,clock,(ht.block b hb h2).trans q2,q3,q4⟩,q5,q6⟩
theorem LocksAt.touchd{w w':World}{g b:Nat}{L:LocksL}{s:Int}{l:List Nat}(h:LocksAt w g b L s)(ht:Touched l w w')(h1:g∉l)(h2:b∉l):LocksAt w' g b L s:=by
 have hg:=h.ltg;have hb:=h.ltb;obtain⟨q1,⟨es,clock,q2,q3,q4⟩,q5,q6⟩:=h;exact⟨(ht.block g hg h1).trans q1,⟨es,clock,(ht.block b hb h2).trans q2,q3,q4⟩,q5,q6⟩
theorem At.ne_coins{w:World}{g b q n:Nat}{T:TypeId}{xs:List Value}{L:CoinsL}{s:Int}(h:At w q T n xs)(hc:CoinsAt w g b L s)(hT:T≠90):q∉[g,b]:=by
 simp only [List.mem_cons,List.not_mem_nil,or_false,not_or];constructor
 ·rintro rfl;have h1:=hc.blk;have h2:=h.blk;unfold Blk at h1 h2;rw[h1]at h2;injection h2 with h2
  injection h2 with _ h2
  exact hT h2.symm
 ·rintro rfl;obtain⟨es,clock,h3,_⟩:=hc.map;have h2:=h.blk;unfold Blk at h2;rw[h3]at h2;cases h2
theorem At.ne_locks{w:World}{g b q n:Nat}{T:TypeId}{xs:List Value}{L:LocksL}{s:Int}(h:At w q T n xs)(hc:LocksAt w g b L s)(hT:T≠99):q∉[g,b]:=by
 simp only [List.mem_cons,List.not_mem_nil,or_false,not_or];constructor
 ·rintro rfl;have h1:=hc.blk;have h2:=h.blk;unfold Blk at h1 h2;rw[h1]at h2;injection h2 with h2
  injection h2 with _ h2
  exact hT h2.symm
 ·rintro rfl;obtain⟨es,clock,h3,_⟩:=hc.map;have h2:=h.blk;unfold Blk at h2;rw[h3]at h2;cases h2
theorem NatsAt.touchC{w w':World}{g b lo:Nat}{A:Option Addr}{ks:List Nat}{L:CoinsL}{s:Int}(h:NatsAt w lo A ks)(hc:CoinsAt w g b L s)(ht:Touched [g,b] w w'):NatsAt w' lo A ks:=
 h.off (fun q hq hn=>by
  obtain⟨q',off,x,h1,h2,h3⟩:=h.first hn
  rw[h1]at hq;obtain rfl:q'=q:=Option.some.inj hq;refine ht.block q' h2 ?_;simp only [List.mem_cons,List.not_mem_nil,or_false,not_or];constructor
  ·rintro rfl;have h5:=hc.blk.cell off;rw[h3]at h5
   match off,h5 with
   | 0,h5=>cases h5
   | 1,h5=>cases h5
   | k+2,h5=>cases h5
  ·rintro rfl;obtain⟨es,clock,h6,_⟩:=hc.map;obtain⟨o,h7,h8⟩:=cells_of_cell h3
   rw[h6]at h7;cases h7;cases h8) ht.size
theorem below_touch{w0 w w':World}{l:List Nat}(hb:Below w0.heap.size w0 w)(ht:Touched l w w')(h:∀x∈l,w0.heap.size≤x):Below w0.heap.size w0 w':=
 hb.trans (ht.below (fun k hk=>h k hk) hb.size)
theorem Touched.grow{w0 w w':World}{l:List Nat}(h:Touched l w0 w)(k:Grow w w'):Touched l w0 w':=h.trans (Touched.of_below k)
def PtsAt(w:World)(lo:Nat)(A:Option Addr)(l:List PtK):Prop:=RowPt w A l.length l∧∀q,A.map Addr.block=some q→lo≤q
theorem PtsAt.grow{w w':World}{lo:Nat}{A:Option Addr}{l:List PtK}(h:PtsAt w lo A l)(k:Grow w w'):PtsAt w' lo A l:=⟨h.1.grow k,h.2⟩
theorem PtsAt.less{w:World}{lo lo':Nat}{A:Option Addr}{l:List PtK}(h:PtsAt w lo A l)(k:lo'≤lo):PtsAt w lo' A l:=⟨h.1,fun q hq=>Nat.le_trans k (h.2 q hq)⟩
theorem PtsAt.touchd{w w':World}{lo:Nat}{A:Option Addr}{l:List PtK}{bs:List Nat}(h:PtsAt w lo A l)(ht:Touched bs w w')(hl:∀x∈bs,x < lo):PtsAt w' lo A l:=
 ⟨⟨(Sl.touchd h.1.1 ht (Nat.le_refl _) (fun q hq hm=>by have:=h.2 q hq;have:=hl q hm;omega)).more ht.size,h.1.2⟩,h.2⟩
theorem kof_pts {g b : Nat} {X L : LocksL} {s : Int} (hr : RelK X L s) {id : List UInt8} (hi : id.length = 32) (w : World) (h : LocksAt w g b L s) :
  Calls Tryz.prog 25 #[.pointer (some ⟨g,0,none⟩),.agg (id.map B).toArray] w fun e w'=>∃A c,e=.returned (.slice A (ofK X id).length c)∧PtsAt w' w.heap.size A (ofK X id)∧Below w.heap.size w w':=by
 refine(kof_any g b L s id w h hi (by have:=hr.len;omega)).mono ?_;rintro e w' ⟨A,n,c,ss,ks,rfl,ho,hk,hp,-,hb⟩;have h1:=hr.of_eq hk hp;have h2:=ho.rowPt;rw[h1]at h2;obtain rfl:n=(ofK X id).length:=h2.2.2.symm;exact⟨A,c,rfl,⟨h2,own_from ho⟩,hb⟩
theorem lookL_cut_ne{Z:LocksL}{p q:PtK}(h:q≠p):lookL (cutK Z p) q=lookL Z q:=by
 unfold lookL cutK;rw[List.find?_filter]
 congr 2
 funext x
 by_cases hx:x.1=q
 ·subst hx;simp [h]
 ·simp [hx]
def freesR:List PtK→LocksL→Int→LocksL×Int
 |[],Y,s=>(Y,s)
 | p::r,Y,s=>freesR r (cutK Y p) (w64 (s+((lookL Y p).getD noLock).1.2))
theorem freesR_step{ps:List PtK}{k:Nat}{p:PtK}{Y:LocksL}{s:Int}(hk:ps[k]? = some p):freesR (ps.drop k) Y s=freesR (ps.drop (k+1)) (cutK Y p) (w64 (s+((lookL Y p).getD noLock).1.2)):=by
 obtain⟨hl,he⟩:=List.getElem?_eq_some_iff.1 hk;rw[List.drop_eq_getElem_cons hl,he];rfl
theorem frees_all:∀(R Z:LocksL) (s:Int),(∀e∈R,lookL Z e.1=some e.2)→(R.map (·.1)).Nodup→freesR (R.map (·.1)) Z s=(Z.filter (fun x=>!decide (x.1∈R.map (·.1))),sumW (R.map fun e=>e.2.1.2) s)
 |[],Z,s,_,_=>by
  show(Z,s)=_
  have:Z.filter (fun x=>!decide (x.1∈List.map (·.1) ([]:LocksL)))=Z:=by
   rw[List.filter_eq_self];intro x _;simp
  rw[this];rfl
 | e::R,Z,s,h,hd=>by
  rw[List.map_cons,List.nodup_cons]at hd;have h0:=h e (List.mem_cons_self ..);show freesR (R.map (·.1)) (cutK Z e.1) (w64 (s+((lookL Z e.1).getD noLock).1.2))=_
  rw[h0,frees_all R (cutK Z e.1) _ (fun x hx=>by
   rw[lookL_cut_ne (fun e2=>hd.1 (by rw[← e2];exact List.mem_map_of_mem hx))]
   exact h x (List.mem_cons_of_mem _ hx)) hd.2]
  congr 1
  unfold cutK;rw[List.filter_filter];refine List.filter_congr fun x hx=>?_
  show(!decide (x.1∈R.map (·.1)) && !(x.1 == e.1))=!decide (x.1∈e.1::R.map (·.1))
  by_cases h1:x.1=e.1
  ·simp [h1]
  ·simp [h1,List.mem_cons,Bool.and_comm]
theorem frees_of{X L:LocksL}{s:Int}(h:RelK X L s)(id:List UInt8):freesR (ofK X id) X 0=(restK X id,freeR X id):=by
 have hd:(X.map (·.1)).Nodup:=(h.perm.map (·.1)).nodup_iff.2 h.ok.2;have e:ofK X id=(heldK X id).map (·.1):=rfl;rw[e,frees_all (heldK X id) X 0 (fun x hx=>lookL_mem ((List.mem_filter.1 hx).1) hd) (hd.sublist ((List.filter_sublist).map _))]
 congr 1
 unfold restK;refine List.filter_congr fun x hx=>?_
 congr 1
 apply decide_eq_decide.2
 constructor
 ·intro hm;obtain⟨y,hy,hyx⟩:=List.mem_map.1 hm;have h1:=lookL_mem ((List.mem_filter.1 hy).1) hd;have h2:=lookL_mem hx hd;rw[hyx,h2]at h1;have h3:=(List.mem_filter.1 hy).2;have h4:x.2=y.2:=by injection h1
  rw[h4];simpa using h3
 ·intro hi;exact List.mem_map.2 ⟨x,List.mem_filter.2 ⟨hx,by simpa using hi⟩,rfl⟩
end Go.Proofs.YtnnjjbkdjkjnpaaGreatDoor

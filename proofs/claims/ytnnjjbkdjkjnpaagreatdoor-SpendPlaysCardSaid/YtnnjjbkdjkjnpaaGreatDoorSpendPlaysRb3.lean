/- Contracts of rate.Compare and its reference. -/
import Derived.Test.YtnnjjbkdjkjnpaaGreatDoorSpendPlaysRb2
import Derived.Lib.BytesEntry
import Derived.Stop.BytesEq
import Derived.Lib.QuietBelow
import Derived.Deep.Quiet
set_option linter.unusedSimpArgs false
set_option linter.unusedVariables false
set_option maxRecDepth 100000
set_option maxHeartbeats 16000000
namespace Go.Proofs.YtnnjjbkdjkjnpaaGreatDoor
open Go.RowKit
theorem isnan_i(x:Int)(w:World):Calls Tryz.prog 126 #[.int .i64 x] w fun e w'=>e=.returned (.bool false)∧w=w':=by
 go_enter Tryz.func126,Tryz.ntmps126
 go_wp2
 go_ret
 exact⟨by simp,rfl⟩
theorem cmpi_any(x y:Int)(w:World):Calls Tryz.prog 114 #[.int .i64 x,.int .i64 y] w fun e w'=>e=.returned (.int .i64 (cmpI x y))∧w=w':=by
 unfold cmpI;by_cases h1:x < y
 ·rw[if_pos h1]
  go_enter Tryz.func114,Tryz.ntmps114
  go_wp2_with (go_at_call 126;refine(isnan_i _ _).mono ?_;rintro e w' ⟨rfl,rfl⟩);go_ret
  exact⟨rfl,rfl⟩
 ·rw[if_neg h1];by_cases h2:y < x
  ·rw[if_pos h2]
   go_enter Tryz.func114,Tryz.ntmps114
   go_wp2_with (go_at_call 126;refine(isnan_i _ _).mono ?_;rintro e w' ⟨rfl,rfl⟩);go_ret
   exact⟨rfl,rfl⟩
  ·rw[if_neg h2]
   go_enter Tryz.func114,Tryz.ntmps114
   go_wp2_with (go_at_call 126;refine(isnan_i _ _).mono ?_;rintro e w' ⟨rfl,rfl⟩);go_ret
   exact⟨rfl,rfl⟩
theorem or_two (x y : Int) (w : World) :
  Calls Tryz.prog 112 #[.slice (some ⟨w.heap.size,0,none⟩) 2 2] (w.alloc (.cells #[.int .i64 x,.int .i64 y] 3)) fun e w'=>e=.returned (.int .i64 (if x=0 then y else x))∧w.alloc (.cells #[.int .i64 x,.int .i64 y] 3)=w':=by
 obtain⟨g,hg⟩:∃g,w.heap.size=g:=⟨_,rfl⟩;obtain⟨V,hV⟩:∃V,w.alloc (.cells #[.int .i64 x,.int .i64 y] 3)=V:=⟨_,rfl⟩;have c0:V.cell? ⟨g,0,none⟩=some (.int .i64 x):=by rw[← hV,← hg];simp
 have c1:V.cell? ⟨g,1,none⟩=some (.int .i64 y):=by rw[← hV,← hg];simp
 rw[hg,hV];clear hg hV;by_cases hx:x=0
 ·subst hx;rw[if_pos rfl];by_cases hy:y=0
  ·subst hy
   go_enter Tryz.func112,Tryz.ntmps112
   go_wp2
   go_loop [8] (fun i=>∃k:Nat,k≤2∧i=.int .i64 k) (fun i=>2 - (intOf i).toNat)
   case atStart=>exact⟨0,by omega,rfl⟩
   case round =>
    obtain⟨k,hk,rfl⟩:=hrel
    match k,hk with
    | 0,_ =>
     go_wp2
     go_round
     case rel=>exact⟨1,by omega,by go_num⟩
     case measure=>simp [intOf]
    | 1,_ =>
     go_wp2
     go_round
     case rel=>exact⟨2,by omega,by go_num⟩
     case measure=>simp [intOf]
    | 2,_ =>
     go_wp2
     go_ret
     exact⟨rfl,rfl⟩
  ·have hb:(y != 0)=true:=by simpa using hy
   go_enter Tryz.func112,Tryz.ntmps112
   go_wp2
   go_loop [8] (fun i=>∃k:Nat,k≤1∧i=.int .i64 k) (fun i=>2 - (intOf i).toNat)
   case atStart=>exact⟨0,by omega,rfl⟩
   case round =>
    obtain⟨k,hk,rfl⟩:=hrel
    match k,hk with
    | 0,_ =>
     go_wp2
     go_round
     case rel=>exact⟨1,by omega,by go_num⟩
     case measure=>simp [intOf]
    | 1,_ =>
     go_wp2
     go_ret
     exact⟨rfl,rfl⟩
 ·rw[if_neg hx];have hb:(x != 0)=true:=by simpa using hx
  clear hx
  go_enter Tryz.func112,Tryz.ntmps112
  go_wp2
  go_loop [8] (fun i=>i=.int .i64 0) (fun i=>2 - (intOf i).toNat)
  case atStart=>rfl
  case round =>
   subst hrel
   go_wp2
   go_ret
   exact⟨rfl,rfl⟩
theorem u64_in(n:Int)(h:0≤n∧n≤18446744073709551615):IntKind.u64.wrap n=n:=by
 simp only [IntKind.wrap,IntKind.signed,IntKind.bits,Bool.false_and,Bool.false_eq_true,if_false];omega
theorem intBits_or(k:IntKind)(x y:Int):Op.intBits .or k x y=pure (.int k (k.wrap ((BitVec.ofInt k.bits x ||| BitVec.ofInt k.bits y).toNat:Nat))):=rfl
theorem bytesOf_b8(ds:List UInt8):Lib.bytesOf (ds.map b8)=ds:=by
 unfold Lib.bytesOf b8;rw[List.map_map]
 conv=>rhs;rw[← List.map_id ds]
 apply List.map_congr_left
 intro x _;simp
theorem run_bytes {P : Program} (w : World) {BB : Nat} {A : Option Addr} {n c : Nat} {ds : List UInt8} (h : Sl w BB 1 A n (ds.map B)) :
  (Extern.Bytes.bytesOf (.slice A n c)).run P w=.ok ⟨ds.toArray⟩ w:=by
 have hl:ds.length=n:=by have:=h.len;simpa using this
 rcases Nat.eq_zero_or_pos n with h0|h0
 ·subst h0;obtain rfl:ds=[]:=List.eq_nil_of_length_eq_zero hl;cases A with
  | none=>rfl
  | some a=>rfl
 ·obtain⟨b,off,rfl,_,hc⟩:=h.2 h0
  have:=Lib.run_loadBytesX (P:=P) w (ds.map b8) ⟨b,off,none⟩ .empty (fun j x hj=>by
   rw[Addr.add_lit];refine hc j _ ?_;rw[List.getElem?_map]at hj ⊢;obtain⟨y,hy,rfl⟩:=Option.map_eq_some_iff.1 hj
   rw[hy];rfl)
  rw[bytesOf_b8,List.length_map,hl]at this;show(Extern.Bytes.loadBytes ⟨b,off,none⟩ n .empty).run P w=_
  rw[this]
  congr 2
  simp
theorem bcmp_any (A A2 : Option Addr) (n c n2 c2 : Nat) (ds es : List UInt8) (w : World) {B1 B2 : Nat} (h1 : Sl w B1 1 A n (ds.map B)) (h2 : Sl w B2 1 A2 n2 (es.map B)) :
  Calls Tryz.prog 113 #[.slice A n c,.slice A2 n2 c2] w fun e w'=>e=.returned (.int .i64 (Lib.compareBytes ds es))∧w=w':=by
 have hrun:(callFunc 125 #[.slice A n c,.slice A2 n2 c2]).run Tryz.prog w=.ok (.value (.int .i64 (Lib.compareBytes ds es))) w:=by
  rw[run_callFunc_extern Tryz.func125 (by kernel_rfl) (by kernel_rfl) (by kernel_rfl) (e:=Extern.BytealgCompare.compare) (by kernel_rfl)]
  change (Sem.run Tryz.prog (do pure (goInt (Extern.BytealgCompare.cmp (← Extern.Bytes.bytesOf (.slice A n c)) (← Extern.Bytes.bytesOf (.slice A2 n2 c2))))) w).andThen _=_
  simp only [Sem.run_bind,run_bytes w h1,run_bytes w h2,Result.andThen,Sem.run_pure];rw[Lib.cmp_eq]
  rfl
 generalize Lib.compareBytes ds es=z at *;clear h1 h2
 go_enter Tryz.func113,Tryz.ntmps113
 go_wp2
 go_ret
 exact⟨rfl,rfl⟩
def ptV(p:List UInt8×Int):List Value:=p.1.map B++[.int .i64 p.2]
theorem ptV_length{p:List UInt8×Int}(h:p.1.length=32):(ptV p).length=33:=by simp [ptV,h]
theorem ptV_ix{p:List UInt8×Int}(h:p.1.length=32):(ptV p)[32]? = some (.int .i64 p.2):=by
 unfold ptV;rw[List.getElem?_append_right (by simp [h])];simp [h]
theorem ptV_at{p:List UInt8×Int}(h:p.1.length=32){k:Nat}(hk:k < 32):(ptV p)[k]? = some (.int .u8 (b8 (p.1[k]?.getD 0))):=by
 unfold ptV;rw[List.getElem?_append_left (by simp [h,hk]),List.getElem?_map,List.getElem?_eq_getElem (by omega)];rfl
theorem Blk.ptSl{w:World}{g:Nat}{t:TypeId}{p:List UInt8×Int}(h:Blk w g t (ptV p))(hl:p.1.length=32):Sl w w.heap.size 1 (some ⟨g,0,none⟩) 32 (p.1.map B):=
 ⟨by simp [hl],fun _=>⟨g,0,rfl,h.lt,fun j u hu=>by
  rw[Nat.zero_add];refine h.at_ ?_;have hj:j < (p.1.map B).length:=(List.getElem?_eq_some_iff.1 hu).1
  unfold ptV;rw[List.getElem?_append_left hj];exact hu⟩⟩
def cmpP(p q:List UInt8×Int):Int:=if Lib.compareBytes p.1 q.1=0 then cmpI p.2 q.2 else Lib.compareBytes p.1 q.1
theorem cb_lt:∀(k:Nat) (a b:List UInt8),(∀j,j < k→a[j]?.getD 0=b[j]?.getD 0)→k < a.length→k < b.length→a[k]?.getD 0 < b[k]?.getD 0→Lib.compareBytes a b=-1
 | _,[],_,_,h,_,_=>by simp at h
 | _,_::_,[],_,_,h,_=>by simp at h
 | 0,x::a,y::b,_,_,_,h=>by
  have h2:x < y:=by simpa using h
  rw[Lib.compareBytes];simp [h2]
 | k+1,x::a,y::b,hj,h1,h2,h=>by
  have h0:x=y:=by simpa using hj 0 (by omega)
  subst h0;rw[Lib.compareBytes];have:=cb_lt k a b (fun j h=>by simpa using hj (j+1) (by omega)) (by simpa using h1) (by simpa using h2) (by simpa using h);simp [this]
theorem cb_gt:∀(k:Nat) (a b:List UInt8),(∀j,j < k→a[j]?.getD 0=b[j]?.getD 0)→k < a.length→k < b.length→b[k]?.getD 0 < a[k]?.getD 0→Lib.compareBytes a b=1
 | _,[],_,_,h,_,_=>by simp at h
 | _,_::_,[],_,_,h,_=>by simp at h
 | 0,x::a,y::b,_,_,_,h=>by
  have h2:y < x:=by simpa using h
  have h3:¬ x < y:=UInt8.lt_asymm h2;rw[Lib.compareBytes];simp [h2,h3]
 | k+1,x::a,y::b,hj,h1,h2,h=>by
  have h0:x=y:=by simpa using hj 0 (by omega)
  subst h0;rw[Lib.compareBytes];have:=cb_gt k a b (fun j h=>by simpa using hj (j+1) (by omega)) (by simpa using h1) (by simpa using h2) (by simpa using h);simp [this]
theorem cb_self:∀(a:List UInt8),Lib.compareBytes a a=0
 |[]=>by rw[Lib.compareBytes]
 | x::a=>by rw[Lib.compareBytes];simp [cb_self a]
theorem eq_of_getD{a b:List UInt8}{n:Nat}(ha:a.length=n)(hb:b.length=n)(h:∀j,j < n→a[j]?.getD 0=b[j]?.getD 0):a=b:=by
 apply List.ext_getElem (by omega)
 intro j h1 h2;have:=h j (by omega);rw[List.getElem?_eq_getElem h1,List.getElem?_eq_getElem h2]at this;exact this
theorem b8_lt{x y:UInt8}:b8 x < b8 y↔x < y:=by unfold b8;rw[UInt8.lt_iff_toNat_lt];omega
theorem rccmp_any (p q : List UInt8 × Int) (w : World) (hp : p.1.length = 32) (hq : q.1.length = 32) :
  Calls Tryz.prog 66 #[.agg (ptV p).toArray,.agg (ptV q).toArray] w fun e w'=>e=.returned (.int .i64 (cmpP p q))∧Below w.heap.size w w':=by
 obtain⟨xs,hxs⟩:=xe (ptV p);obtain⟨ys,hys⟩:=xe (ptV q);obtain⟨z,hz⟩:=xe (cmpP p q);rw[← hxs,← hys,← hz];have HZ:=kp hz;clear hz;have HX:=kp hxs;have HY:=kp hys;have HP:=kp hp;have HQ:=kp hq;clear hxs hys hp hq
 go_enter Tryz.func66,Tryz.ntmps66
 go_wp2_with (with_reducible first|refine wpl_box (o:=⟨some 2,_,_,_,_,_⟩) rfl rfl rfl ?_);intro w1 hb1 hbw1 hsz1;generalize hgd:w.heap.size=g at *;go_wp2_with (with_reducible first|refine wpl_box (o:=⟨some 3,_,_,_,_,_⟩) rfl rfl rfl ?_);intro w2 hb2 hbw2 hsz2;have H2:=kp hb2;have H1:=kp (hb1.below hbw2 (by omega));have HBW:=kp (hbw1.trans (hbw2.mono (by omega)));have HG:=kp hgd;clear hb1 hb2 hbw1 hbw2 hsz1 hsz2 hgd;generalize g+1=g2 at *;go_wp2_with fail;go_loopw [5] (fun i wr=>∃k:Nat,k≤32∧i=.int .i64 k∧Hid (∀j,j < k→p.1[j]?.getD 0=q.1[j]?.getD 0)∧Hid (Drawn w2 wr)) (fun i _=>32 - (intOf i).toNat)
 case atStart=>exact⟨0,by omega,rfl,fun j hj=>absurd hj (by omega),Drawn.refl _⟩
 case round =>
  obtain⟨k,hk,rfl,HE,HD⟩:=hrel;by_cases hlt:k < 32
  ·have c1:wr.cell? ⟨g,k,none⟩=some (.int .u8 (b8 (p.1[k]?.getD 0))):=(HD.o.cell _).trans (H1.o.at_ (by rw[HX.o];exact ptV_at HP.o hlt));have c2:wr.cell? ⟨g2,k,none⟩=some (.int .u8 (b8 (q.1[k]?.getD 0))):=(HD.o.cell _).trans (H2.o.at_ (by rw[HY.o];exact ptV_at HQ.o hlt));generalize hx:p.1[k]?.getD 0=x at *;generalize hy:q.1[k]?.getD 0=y at *;have HX2:=kp hx;have HY2:=kp hy;clear hx hy;have gk:(k:Int) < 32:=by omega
   by_cases h1:b8 x < b8 y
   ·repeat' (first|(with_reducible refine wp_region_quiet_lit (id:=4) (by kernel_rfl) (by kernel_rfl) ?_)|go_values|go_skip|go_guarded|go_step|go_upon|go_back)
    repeat (quiet_step (fail))
    refine wpQuiet_nil ?_;intro _ hw';obtain⟨nq,hw''⟩:=hw';subst hw'';go_wp2_with fail;go_ret
    have e:Lib.compareBytes p.1 q.1=-1:=cb_lt k _ _ HE.o (by rw[HP.o];exact hlt) (by rw[HQ.o];exact hlt) (by rw[HX2.o,HY2.o];exact b8_lt.1 h1);exact⟨ret_int (by rw[HZ.o,cmpP,e];rfl),by rw[HG.o];exact(Drawn.n _ _).below (HD.o.below HBW.o)⟩
   ·repeat' (first|(with_reducible refine wp_region_quiet_lit (id:=4) (by kernel_rfl) (by kernel_rfl) ?_)|go_values|go_skip|go_guarded|go_step|go_upon|go_back)
    repeat (quiet_step (fail))
    refine wpQuiet_nil ?_;intro _ hw';obtain⟨nq,hw''⟩:=hw';subst hw'';clear c1 c2;have hd2:Drawn w2 (wr.drewN nq):=HD.o.trans ⟨nq,rfl⟩;generalize wr.drewN nq=wr1 at hd2 ⊢;have c1:wr1.cell? ⟨g,k,none⟩=some (.int .u8 (b8 x)):=(hd2.cell _).trans (H1.o.at_ (by rw[HX.o];exact(ptV_at HP.o hlt).trans (by rw[HX2.o])));have c2:wr1.cell? ⟨g2,k,none⟩=some (.int .u8 (b8 y)):=(hd2.cell _).trans (H2.o.at_ (by rw[HY.o];exact(ptV_at HQ.o hlt).trans (by rw[HY2.o])));have HD2:=kp hd2;clear hd2 HD;by_cases h2:b8 y < b8 x
    ·repeat' (first|(with_reducible refine wp_region_quiet_lit (id:=6) (by kernel_rfl) (by kernel_rfl) ?_)|go_values|go_skip|go_guarded|go_step|go_upon|go_back)
     repeat (quiet_step (fail))
     refine wpQuiet_nil ?_;intro _ hw';obtain⟨nq,hw''⟩:=hw';subst hw'';go_wp2_with fail;go_ret
     have e:Lib.compareBytes p.1 q.1=1:=cb_gt k _ _ HE.o (by rw[HP.o];exact hlt) (by rw[HQ.o];exact hlt) (by rw[HX2.o,HY2.o];exact b8_lt.1 h2);exact⟨ret_int (by rw[HZ.o,cmpP,e];rfl),by rw[HG.o];exact(Drawn.n _ _).below (HD2.o.below HBW.o)⟩
    ·repeat' (first|(with_reducible refine wp_region_quiet_lit (id:=6) (by kernel_rfl) (by kernel_rfl) ?_)|go_values|go_skip|go_guarded|go_step|go_upon|go_back)
     repeat (quiet_step (fail))
     refine wpQuiet_nil ?_;intro _ hw';obtain⟨nq,hw''⟩:=hw';subst hw'';clear c1 c2;have HD3:=kp (HD2.o.trans ⟨nq,rfl⟩);have e:x=y:=b8_inj (by omega);go_wp2_with fail;go_roundw
     case rel=>exact⟨k+1,by omega,by go_num,fun j hj=>by
      by_cases hjk:j=k
      ·subst hjk;rw[HX2.o,HY2.o,e]
      ·exact HE.o j (by omega),HD3.o⟩
     case measure=>simp [intOf];omega
  ·obtain rfl:k=32:=by omega
   have e:=eq_of_getD HP.o HQ.o HE.o;have e2:z=cmpI p.2 q.2:=by rw[HZ.o,cmpP,e,cb_self,if_pos rfl]
   have HE2:=kp e2;clear e e2 HZ;have c1:wr.cell? ⟨g,32,none⟩=some (.int .i64 p.2):=(HD.o.cell _).trans (H1.o.at_ (by rw[HX.o];exact ptV_ix HP.o));have c2:wr.cell? ⟨g2,32,none⟩=some (.int .i64 q.2):=(HD.o.cell _).trans (H2.o.at_ (by rw[HY.o];exact ptV_ix HQ.o));generalize p.2=u at *;generalize q.2=v at *;obtain⟨wo,rfl⟩:∃wo:World,wo=wr:=⟨_,rfl⟩;have HBF:=kp (HD.o.below HBW.o);by_cases h1:u < v
   ·go_wp2_with fail;go_ret
    exact⟨ret_int (by rw[HE2.o,cmpI,if_pos h1]),by rw[HG.o];exact HBF.o⟩
   ·by_cases h2:v < u
    ·go_wp2_with fail;go_ret
     exact⟨ret_int (by rw[HE2.o,cmpI,if_neg (by omega),if_pos h2]),by rw[HG.o];exact HBF.o⟩
    ·go_wp2_with fail;go_ret
     exact⟨ret_int (by rw[HE2.o,cmpI,if_neg (by omega),if_neg (by omega)]),by rw[HG.o];exact HBF.o⟩
section
variable {P:Program} {ops:Array Oper} {md:Region.Mode}
def phMove(P:Program)(C':World→Prop)(v:Value):Result Next→Prop
 | .ok (.value u) w'=>C' w'∧u=v
 | .ok .skip w'=>C' w'∧v=undef
 | .ok (.enter f args) w'=>Calls P f args w' (fun e w''=>e=.returned v∧C' w'')
 | _=>False
def phAt(P:Program)(o:Oper)(a:Act)(C':World→Prop)(w:World)(v:Value):Prop:=phMove P C' v ((execOp a.eval o).run P w)
def phN:List Nat→Array Bool→Nat
 |[],_=>0
 | m::M,listed=>if listed.getD m false then phN M listed+1 else 0
def phNext(M:List Nat)(i k:Nat):Nat:=if M.contains i then k+1 else k
def phLo(R:List (Nat×Nat))(i:Nat):Nat:=(R.getD i (0,0)).1
def phHi(R:List (Nat×Nat))(i:Nat):Nat:=(R.getD i (0,0)).2
theorem phN_take{listed:Array Bool}:∀(M:List Nat),∀m∈M.take (phN M listed),listed.getD m false=true
 |[],m,h=>by simp [phN]at h
 | x::M,m,h=>by
  unfold phN at h;split at h
  ·rename_i hx;rw[List.take_succ_cons]at h;rcases List.mem_cons.1 h with rfl|h
   ·exact hx
   ·exact phN_take M m h
  ·simp at h
theorem phN_ge{listed:Array Bool}:∀(M:List Nat) (l:Nat),l≤M.length→(∀m∈M.take l,listed.getD m false=true)→l≤phN M listed
 | _,0,_,_=>Nat.zero_le _
 |[],l+1,h,_=>by simp at h
 | x::M,l+1,h,hm=>by
  unfold phN;rw[if_pos (hm x (by simp))];have:=phN_ge M l (by simpa using h) (fun m h=>hm m (by rw[List.take_succ_cons];exact List.mem_cons_of_mem _ h));omega
theorem phN_le{listed:Array Bool}:∀(M:List Nat) (h m:Nat),M[h]? = some m→listed.getD m false=false→phN M listed≤h
 |[],_,_,e,_=>by simp at e
 | x::M,0,m,e,hm=>by
  have:x=m:=by simpa using e
  subst this;unfold phN;rw[hm];simp
 | x::M,h+1,m,e,hm=>by
  unfold phN;split
  ·have:=phN_le M h m (by simpa using e) hm;omega
  ·omega
theorem phN_len{listed:Array Bool}:∀(M:List Nat),phN M listed≤M.length
 |[]=>Nat.le_refl _
 | x::M=>by unfold phN;have:=phN_len (listed:=listed) M;split <;> simp <;> omega
theorem getD_set_self{listed:Array Bool}{i:Nat}(h:listed.getD i true=false):(listed.setIfInBounds i true).getD i false=true:=by
 have hi:i < listed.size:=by
  rcases Nat.lt_or_ge i listed.size with h1|h1
  ·exact h1
  ·simp [Array.getD_eq_getD_getElem?,Array.getElem?_eq_none h1]at h
 simp [Array.getD_eq_getD_getElem?,hi]
theorem getD_ne{listed:Array Bool}{i j:Nat}(d:Bool)(h:i≠j):(listed.setIfInBounds i true).getD j d=listed.getD j d:=by
 simp [Array.getD_eq_getD_getElem?,Array.getElem?_setIfInBounds_ne h]
theorem getD_tf{listed:Array Bool}{i:Nat}(h:listed.getD i true=false):listed.getD i false=false:=by
 rcases Nat.lt_or_ge i listed.size with h1|h1
 ·simp [Array.getD_eq_getD_getElem?,h1]at h ⊢;exact h
 ·simp [Array.getD_eq_getD_getElem?,Array.getElem?_eq_none h1]
theorem phN_other{listed:Array Bool}{i:Nat}:∀(M:List Nat),M.contains i=false→phN M (listed.setIfInBounds i true)=phN M listed
 |[],_=>rfl
 | x::M,h=>by
  have h1:¬ i=x∧M.contains i=false:=by simpa using h
  unfold phN;rw[getD_ne false h1.1,phN_other M h1.2]
def ancs(md:Region.Mode)(ops:Array Oper):Nat→Nat→List Nat
 | 0,_=>[]
 | f+1,i=>(((ops[i]?).map fun o=>(o.after.toList.filter fun e=>Region.binds md e).map (·.on)).getD []).flatMap fun j=>j::ancs md ops f j
def PClosed(md:Region.Mode)(ops:Array Oper)(listed:Array Bool):Prop:=
 ∀j oj,ops[j]? = some oj→listed.getD j false=true→∀e∈oj.after,Region.binds md e=true→listed.getD e.on false=true
theorem ancs_listed{listed:Array Bool}(hc:PClosed md ops listed):∀(f i:Nat),(∀oi,ops[i]? = some oi→∀e∈oi.after,Region.binds md e=true→listed.getD e.on false=true)→∀j∈ancs md ops f i,listed.getD j false=true
 | 0,_,_,j,hj=>by simp [ancs]at hj
 | f+1,i,h,j,hj=>by
  unfold ancs at hj;obtain⟨x,hx,hj⟩:=List.mem_flatMap.1 hj;cases ho:ops[i]? with
  | none=>rw[ho]at hx;simp at hx
  | some oi =>
   rw[ho]at hx;obtain⟨e,he,rfl⟩:=List.mem_map.1 hx;obtain⟨he1,he2⟩:=List.mem_filter.1 he;have hl:=h oi ho e (by simpa using he1) he2;rcases List.mem_cons.1 hj with rfl|hj
   ·exact hl
   ·exact ancs_listed hc f e.on (fun oj hoj=>hc e.on oj hoj hl) j hj
theorem closed_set{listed:Array Bool}{i:Nat}(hc:PClosed md ops listed)(hi:i∈Region.ready md ops listed):PClosed md ops (listed.setIfInBounds i true):=by
 intro j oj hoj hj e he hb;by_cases hji:i=j
 ·subst hji;obtain⟨_,o,ho,hall⟩:=mem_ready.1 hi;rw[ho]at hoj;cases hoj;exact getD_set_true (hall e he hb)
 ·rw[getD_ne false hji]at hj;exact getD_set_true (hc j oj hoj hj e he hb)
def phaseB(md:Region.Mode)(ops:Array Oper)(M:List Nat)(R:List (Nat×Nat)):Bool:=
 (List.range ops.size).all (fun i =>
  let A:=ancs md ops ops.size i
  decide (phLo R i≤M.length) && (M.take (phLo R i)).all (fun m=>A.contains m) &&
  (match M[phHi R i]? with
    | none=>decide (M.length≤phHi R i)
    | some m=>m == i ||(ancs md ops ops.size m).contains i)) &&
 (List.range M.length).all (fun j =>
  (match M[j]? with
    | none=>false
    | some m=>phLo R m == j && phHi R m == j &&
     (match M[j + 1]? with
       | none=>true
       | some m'=>m' != m && (ancs md ops ops.size m').contains m)))
theorem phase_range {M : List Nat} {R : List (Nat × Nat)} (hB : phaseB md ops M R = true) {listed : Array Bool} (hc : PClosed md ops listed) {i : Nat} (hi : i ∈ Region.ready md ops listed) :
  phLo R i≤phN M listed∧phN M listed≤phHi R i∧phN M (listed.setIfInBounds i true)=phNext M i (phN M listed):=by
 obtain⟨hun,o,ho,hall⟩:=mem_ready.1 hi;have hsz:i < ops.size:=(Array.getElem?_eq_some_iff.1 ho).1;simp only [phaseB,Bool.and_eq_true,List.all_eq_true,List.mem_range]at hB;obtain⟨hB1,hB2⟩:=hB;obtain⟨⟨h1,h2⟩,h3⟩:=hB1 i hsz;have hA:=ancs_listed hc ops.size i (fun oi hoi=>by rw[ho]at hoi;cases hoi;exact hall);have hlo:phLo R i≤phN M listed:=phN_ge M _ (by simpa using h1) (fun m hm=>hA m (by simpa using h2 m hm))
 have unl:∀m,(m=i∨i∈ancs md ops ops.size m)→listed.getD m false=false:=by
  intro m hm;rcases hm with rfl|hm
  ·exact getD_tf hun
  ·cases hl:listed.getD m false with
   | false=>rfl
   | true =>
    have:=ancs_listed hc ops.size m (fun oj hoj=>hc m oj hoj hl) i hm;rw[getD_tf hun]at this;cases this
 have hhi:phN M listed≤phHi R i:=by
  cases hm:M[phHi R i]? with
  | none=>rw[hm]at h3;have:=phN_len (listed:=listed) M;simp at h3;omega
  | some m =>
   rw[hm]at h3;refine phN_le M _ m hm (unl m ?_);simpa using h3
 refine⟨hlo,hhi,?_⟩;unfold phNext;cases hM:M.contains i with
 | false=>simp only [Bool.false_eq_true,if_false];exact phN_other M hM
 | true =>
  simp only [if_true];have hmem:i∈M:=by simpa using hM
  obtain⟨j,hj,hji⟩:=List.getElem_of_mem hmem;have hj':M[j]? = some i:=by rw[List.getElem?_eq_getElem hj,hji]
  have hb:=hB2 j hj;rw[hj']at hb;simp only [Bool.and_eq_true,beq_iff_eq]at hb;obtain⟨⟨e1,e2⟩,hb3⟩:=hb;have hph:phN M listed=j:=by omega
  rw[hph]
  apply Nat.le_antisymm
  ·cases hn:M[j+1]? with
   | none =>
    have:=phN_len (listed:=listed.setIfInBounds i true) M;have:=List.getElem?_eq_none_iff.1 hn;omega
   | some m' =>
    rw[hn]at hb3;simp only [Bool.and_eq_true,bne_iff_ne,ne_eq]at hb3;refine phN_le M _ m' hn ?_;rw[getD_ne false (fun h=>hb3.1 h.symm)];exact unl m' (.inr (by simpa using hb3.2))
  ·refine phN_ge M _ (by omega) (fun m hm=>?_);rw[List.take_add_one,hj']at hm;rcases List.mem_append.1 hm with hm|hm
   ·have:=phN_take (listed:=listed) M m (by rw[hph];exact hm);exact getD_set_true this
   ·simp at hm;subst hm;exact getD_set_self hun
end
section
variable {P:Program} {ops:Array Oper} {md:Region.Mode} {C:Nat→World→Prop} {M:List Nat} {R:List (Nat×Nat)}
def phOp(P:Program)(C:Nat→World→Prop)(M:List Nat)(R:List (Nat×Nat))(ops:Array Oper)(i:Nat)(o:Oper)(a:Act)(next:Act→Prop):Prop:=
 if Region.wanted o (yielded ops a.tmps) then ∃v,(∀k,phLo R i≤k→k≤phHi R i→∀w,C k w→phAt P o a (C (phNext M i k)) w v)∧next (a.put o.dst v)
 else(∀k,phLo R i≤k→k≤phHi R i→∀w,C k w→C (phNext M i k) w)∧next (a.put o.dst undef)
def pOp(P:Program)(C:Nat→World→Prop)(M:List Nat)(R:List (Nat×Nat))(ops:Array Oper)(i:Nat)(K:Act→Prop)(a:Act):Prop:=
 match ops[i]? with
 | none=>K a
 | some o=>phOp P C M R ops i o a K
def wpPhase(P:Program)(C:Nat→World→Prop)(M:List Nat)(R:List (Nat×Nat))(ops:Array Oper)(Q:Act→Prop):List Oper→Nat→Act→Prop
 |[],_,a=>Q a
 | o::rest,i,a=>phOp P C M R ops i o a (wpPhase P C M R ops Q rest (i+1))
theorem phOp_mono{i:Nat}{o:Oper}{a:Act}{K K':Act→Prop}(h:∀a,K a→K' a)(hh:phOp P C M R ops i o a K):phOp P C M R ops i o a K':=by
 unfold phOp at *;split
 ·rename_i hw;rw[if_pos hw]at hh;obtain⟨v,h1,h2⟩:=hh;exact⟨v,h1,h _ h2⟩
 ·rename_i hw;rw[if_neg hw]at hh;exact⟨hh.1,h _ hh.2⟩
theorem pOp_mono{i:Nat}{a:Act}{K K':Act→Prop}(h:∀a,K a→K' a)(hh:pOp P C M R ops i K a):pOp P C M R ops i K' a:=by
 unfold pOp at *;split
 ·rename_i ho;rw[ho]at hh;exact h _ hh
 ·rename_i o ho;rw[ho]at hh;exact phOp_mono h hh
def wpAnyP(P:Program)(C:Nat→World→Prop)(M:List Nat)(R:List (Nat×Nat))(md:Region.Mode)(ops:Array Oper)(Q:Act→Prop):Nat→Array Bool→Act→Prop
 | 0,listed,a=>Region.ready md ops listed=[]∧phN M listed=M.length∧Q a
 | fuel+1,listed,a =>
  (Region.ready md ops listed=[]→phN M listed=M.length∧Q a) ∧
  ∀i∈Region.ready md ops listed,pOp P C M R ops i (wpAnyP P C M R md ops Q fuel (listed.setIfInBounds i true)) a
theorem wpOp_of_pOp {i : Nat} {a : Act} {K : Act → Prop} {K' : Act → World → Prop} {Q' : Exit → Act → World → Prop} {w : World} {k : Nat} (h1 : phLo R i ≤ k) (h2 : k ≤ phHi R i) (hC : C k w)
  (hin:(ops[i]?).isSome=true) (h:∀a w',C (phNext M i k) w'→K a→K' a w') (hh:pOp P C M R ops i K a):wpOp P ops Q' i K' a w:=by
 unfold pOp at hh;unfold wpOp;cases ho:ops[i]? with
 | none=>rw[ho]at hin;cases hin
 | some o =>
  rw[ho]at hh;simp only at hh ⊢;unfold phOp at hh;split
  ·rename_i hw;rw[if_pos hw]at hh;obtain⟨v,h3,h4⟩:=hh;have h5:=h3 k h1 h2 w hC
   left
   unfold phAt at h5;unfold Oper.wp;generalize (execOp a.eval o).run P w=r at *;cases r with
   | ok n w' =>
    cases n <;> simp only [phMove]at h5 <;> simp only [Oper.upon]
    case value u=>obtain⟨e1,e2⟩:=h5;rw[e2];exact h _ _ e1 h4
    case skip=>obtain⟨e1,e2⟩:=h5;rw[← e2];exact h _ _ e1 h4
    case enter f args=>exact h5.mono fun e w'' ⟨he,hw''⟩=>by subst he;exact h _ _ hw'' h4
   | halt x w'=>simp only [phMove]at h5
  ·rename_i hw;rw[if_neg hw]at hh;exact h _ _ (hh.1 k h1 h2 w hC) hh.2
theorem wpAny_of_phase {Q : Act → Prop} {Q' : Exit → Act → World → Prop} (hB : phaseB md ops M R = true) (hQ : ∀ a w, C M.length w → Q a → Q' .normal a w) :
  ∀(fuel:Nat) (listed:Array Bool) (a:Act) (w:World),PClosed md ops listed→C (phN M listed) w→wpAnyP P C M R md ops Q fuel listed a→wpAny P md ops Q' fuel listed a w
 | 0,_,_,_,_,hw,h=>⟨h.1,hQ _ _ (by rw[← h.2.1];exact hw) h.2.2⟩
 | fuel + 1, listed, _, _, hc, hw, h => ⟨fun h0 => hQ _ _ (by rw [← (h.1 h0).1]; exact hw) (h.1 h0).2, fun i hi => by
   obtain⟨g1,g2,g3⟩:=phase_range hB hc hi;obtain⟨_,o,ho,_⟩:=mem_ready.1 hi
   exact wpOp_of_pOp g1 g2 hw (by rw[ho];rfl) (fun a' w' hw'=>wpAny_of_phase hB hQ fuel _ a' w' (closed_set hc hi) (by rw[g3];exact hw')) (h.2 i hi)⟩
def YieldsP(P:Program)(C:Nat→World→Prop)(M:List Nat)(R:List (Nat×Nat))(ops:Array Oper)(i:Nat)(o:Oper)(v:Value)(a:Act):Prop:=
 (Region.wanted o (yielded ops a.tmps)=true∧∀k,phLo R i≤k→k≤phHi R i→∀w,C k w→phAt P o a (C (phNext M i k)) w v) ∨
 (Region.wanted o (yielded ops a.tmps)=false∧v=undef∧∀k,phLo R i≤k→k≤phHi R i→∀w,C k w→C (phNext M i k) w)
theorem YieldsP.phOp{i:Nat}{o:Oper}{v:Value}{a:Act}(hy:YieldsP P C M R ops i o v a){K:Act→Prop}(h:K (a.put o.dst v)):phOp P C M R ops i o a K:=by
 unfold Go.Proofs.YtnnjjbkdjkjnpaaGreatDoor.phOp;rcases hy with ⟨hw,hv⟩|⟨hw,rfl,hv⟩
 ·rw[if_pos hw];exact⟨v,hv,h⟩
 ·rw[if_neg (by rw[hw];simp)];exact⟨hv,h⟩
theorem YieldsP.pOp{i:Nat}{o:Oper}{v:Value}{a:Act}(hi:ops[i]? = some o)(hy:YieldsP P C M R ops i o v a){K:Act→Prop}(h:K (a.put o.dst v)):pOp P C M R ops i K a:=by
 unfold Go.Proofs.YtnnjjbkdjkjnpaaGreatDoor.pOp;rw[hi];exact hy.phOp h
theorem YieldsP.of_same {i : Nat} {o : Oper} {v : Value} {a a' : Act} (hy : YieldsP P C M R ops i o v a) (he : execOp a'.eval o = execOp a.eval o)
  (hw:Region.wanted o (yielded ops a'.tmps)=Region.wanted o (yielded ops a.tmps)):YieldsP P C M R ops i o v a':=by
 unfold YieldsP phAt at *;rw[he,hw];exact hy
theorem yieldsP_of{i:Nat}{o:Oper}{a:Act}{K:Act→Prop}(h:phOp P C M R ops i o a K):∃v,YieldsP P C M R ops i o v a∧K (a.put o.dst v):=by
 unfold phOp at h;by_cases hw:Region.wanted o (yielded ops a.tmps)=true
 ·rw[if_pos hw]at h;obtain⟨v,h1,h2⟩:=h;exact⟨v,.inl ⟨hw,h1⟩,h2⟩
 ·rw[if_neg hw]at h;exact⟨undef,.inr ⟨by simpa using hw,rfl,h.1⟩,h.2⟩
theorem pOp_put {i j : Nat} {oi oj : Oper} {v : Value} (hj : ops[j]? = some oj) (hap : oi.apart ops oj = true)
  (hsi:∀cs b,oi.op≠.select cs b) (hsj:∀cs b,oj.op≠.select cs b) {K:Act→Prop} {a:Act}
  (hy:YieldsP P C M R ops i oi v a) (h:pOp P C M R ops j K (a.put oi.dst v)) :
  pOp P C M R ops j (fun a'=>YieldsP P C M R ops i oi v a'∧K (a'.put oi.dst v)) a:=by
 obtain⟨h1,h2,h3⟩:=Oper.apart_spec hap
 have keep:∀(a:Act),YieldsP P C M R ops i oi v a→∀u,YieldsP P C M R ops i oi v (a.put oj.dst u):=fun a hy u =>
  hy.of_same (execOp_put oi hsi a oj.dst u h3) (wanted_put oi a oj.dst u h3)
 unfold pOp at *;simp only [hj]at *;unfold phOp at *;rw[wanted_put oj a oi.dst v h1]at h;split
 ·rename_i hw;rw[if_pos hw]at h;obtain⟨u,hu,hn⟩:=h;refine⟨u,fun k k1 k2 w hw'=>?_,keep a hy u,by rw[← Act.put_comm a v u h2];exact hn⟩;have:=hu k k1 k2 w hw';unfold phAt at *
  rwa [execOp_put oj hsj a oi.dst v h1]at this
 ·rename_i hw;rw[if_neg hw]at h;exact⟨h.1,keep a hy _,by rw[← Act.put_comm a v undef h2];exact h.2⟩
theorem wpAnyP_first {Q : Act → Prop} {i : Nat} {oi : Oper} {v : Value} (hi : ops[i]? = some oi) (hsel : ∀ (j : Nat) (o : Oper) cs b, ops[j]? = some o → o.op ≠ .select cs b) :
  ∀(fuel:Nat) (listed:Array Bool) (a:Act),
   (∀j oj,ops[j]? = some oj→j≠i→listed.getD j true=false→(∀e∈oj.after,Region.binds md e=true→e.on≠i)→oi.apart ops oj=true) →
   i∈Region.ready md ops listed→YieldsP P C M R ops i oi v a →
   wpAnyP P C M R md ops Q fuel (listed.setIfInBounds i true) (a.put oi.dst v)→wpAnyP P C M R md ops Q (fuel+1) listed a:=by
 intro fuel
 induction fuel with
 | zero =>
  intro listed a _ hr hy H;refine⟨fun h=>(by rw[h]at hr;cases hr),fun j hj=>?_⟩;by_cases hji:j=i
  ·subst hji;exact hy.pOp hi H
  ·have:=ready_mono hj hji;rw[H.1]at this;cases this
 | succ fuel ih =>
  intro listed a hfree hr hy H;refine⟨fun h=>(by rw[h]at hr;cases hr),fun j hj=>?_⟩;by_cases hji:j=i
  ·subst hji;exact hy.pOp hi H
  ·have h1:=H.2 j (ready_mono hj hji);obtain⟨hjun,oj,hoj,hall⟩:=mem_ready.1 hj
   have hnot:∀e∈oj.after,Region.binds md e=true→e.on≠i:=fun e he hb heq=>by
    have h1:=hall e he hb;rw[heq,getD_tf (mem_ready.1 hr).1]at h1;cases h1
   have h2:=pOp_put hoj (hfree j oj hoj hji hjun hnot) (fun cs b=>hsel i oi cs b hi) (fun cs b=>hsel j oj cs b hoj) hy h1;refine pOp_mono (fun a' h3=>ih (listed.setIfInBounds j true) a' (fun k ok hk hki hun hno=>hfree k ok hk hki ?_ hno) (ready_mono hr (Ne.symm hji)) h3.1 ?_) h2
   ·by_cases hjk:j=k
    ·subst hjk;exact hjun
    ·rw[getD_ne true hjk]at hun;exact hun
   ·rw[Array.setIfInBounds_comm _ _ hji];exact h3.2
def phLex(md:Region.Mode)(ops:Array Oper)(M:List Nat):Nat→Nat→Array Bool→Bool
 | 0,_,listed=>(Region.ready md ops listed).isEmpty && phN M listed == M.length
 | fuel+1,k,listed=>(Region.ready md ops listed).contains k && Region.free md ops listed k && phLex md ops M fuel (k+1) (listed.setIfInBounds k true)
theorem wpAnyP_lex {Q : Act → Prop} (hs : Region.noSelect ops = true) : ∀ (l : List Oper) (k : Nat) (listed : Array Bool) (a : Act), (∀ j, l[j]? = ops[k + j]?) →
  phLex md ops M l.length k listed=true→wpPhase P C M R ops Q l k a→wpAnyP P C M R md ops Q l.length listed a
 |[],_,_,_,_,hB,h=>by
  simp only [List.length_nil,phLex,Bool.and_eq_true,beq_iff_eq]at hB;exact⟨by simpa using hB.1,hB.2,h⟩
 | o::l,k,listed,a,hl,hB,h=>by
  have h0:ops[k]? = some o:=by simpa using (hl 0).symm
  simp only [List.length_cons,phLex,Bool.and_eq_true]at hB;obtain⟨⟨hr,hf⟩,hB'⟩:=hB;obtain⟨v,hy,hK⟩:=yieldsP_of (i:=k) h
  exact wpAnyP_first h0 (Region.noSelect_spec hs) l.length listed a (Region.free_spec h0 hf) (by simpa using hr) hy
   (wpAnyP_lex hs l (k+1) _ _ (fun j=>by have:=hl (j+1);simpa [Nat.add_assoc,Nat.add_comm 1 j] using this) hB' hK)
def regionB(ops:Array Oper)(M:List Nat)(R:List (Nat×Nat)):Bool:=
 Region.noSelect ops && phaseB .any ops M R && phLex .any ops M ops.size 0 (Array.replicate ops.size false)
theorem phN_none{n:Nat}:∀(M:List Nat),phN M (Array.replicate n false)=0
 |[]=>rfl
 | m::M=>by
  unfold phN;rw[if_neg];rw[Array.getD_eq_getD_getElem?,Array.getElem?_replicate];split <;> simp
theorem wp_phase {id : Nat} {Q : Exit → Act → World → Prop} {a : Act} {w : World} {l : List Oper} (C : Nat → World → Prop) (M : List Nat) (R : List (Nat × Nat)) (hm : P.follows .mixedOrders = true) (hB : regionB l.toArray M R = true)
  (hC:C 0 w.drew) (h:wpPhase P C M R l.toArray (fun a'=>∀w',C M.length w'→Q .normal a' w') l 0 a):(Code.region id l.toArray true).wp P Q a w:=by
 simp only [regionB,Bool.and_eq_true]at hB;obtain⟨⟨hs,hph⟩,hlex⟩:=hB;refine wp_region_any hm (wpAny_of_phase (Q:=fun a'=>∀w',C M.length w'→Q .normal a' w') hph (fun _ w' hw' h=>h w' hw') _ _ _ _ ?_ (by rw[phN_none];exact hC) ?_)
 ·intro j oj _ hj;rw[Array.getD_eq_getD_getElem?,Array.getElem?_replicate]at hj;split at hj <;> simp at hj
 ·have:=wpAnyP_lex (C:=C) (R:=R) (md:=.any) hs l 0 (Array.replicate l.toArray.size false) a (by simp) (by simpa using hlex) h;simpa using this
variable {Q:Act→Prop} {o:Oper} {rest:List Oper} {i:Nat} {a:Act}
theorem ph_value {v : Value} (hM : M.contains i = false) (hw : Region.wanted o (yielded ops a.tmps) = true)
  (h:∀k,phLo R i≤k→k≤phHi R i→∀w,C k w→(execOp a.eval o).run P w=.ok (.value v) w)
  (hk:∀K:Act→Prop,(∀a,wpPhase P C M R ops Q rest (i+1) a→K a)→K (a.put o.dst v)):wpPhase P C M R ops Q (o::rest) i a:=by
 unfold wpPhase phOp;rw[if_pos hw];refine⟨v,fun k h1 h2 w hC=>?_,hk _ fun _ h=>h⟩;unfold phAt phNext;rw[h k h1 h2 w hC,hM];exact⟨hC,rfl⟩
theorem ph_skip (hM : M.contains i = false) (hw : Region.wanted o (yielded ops a.tmps) = false)
  (hk:∀K:Act→Prop,(∀a,wpPhase P C M R ops Q rest (i+1) a→K a)→K (a.put o.dst undef)):wpPhase P C M R ops Q (o::rest) i a:=by
 unfold wpPhase phOp;rw[if_neg (by rw[hw];simp)];refine⟨fun k h1 h2 w hC=>?_,hk _ fun _ h=>h⟩;unfold phNext;rw[hM];exact hC
theorem ph_call {v : Value} {f : FuncId} {args : Array Value} (hM : M.contains i = false) (hw : Region.wanted o (yielded ops a.tmps) = true)
  (h:∀w,(execOp a.eval o).run P w=.ok (.enter f args) w)
  (hc:∀k,phLo R i≤k→k≤phHi R i→∀w,C k w→Calls P f args w fun e w'=>e=.returned v∧C k w')
  (hk:∀K:Act→Prop,(∀a,wpPhase P C M R ops Q rest (i+1) a→K a)→K (a.put o.dst v)):wpPhase P C M R ops Q (o::rest) i a:=by
 unfold wpPhase phOp;rw[if_pos hw];refine⟨v,fun k h1 h2 w hC=>?_,hk _ fun _ h=>h⟩;unfold phAt phNext;rw[h w,hM];exact hc k h1 h2 w hC
theorem ph_write {v : Value} (j : Nat) (hM : M.contains i = true) (hl : phLo R i = j) (hh : phHi R i = j) (hw : Region.wanted o (yielded ops a.tmps) = true)
  (h:∀w,C j w→phAt P o a (C (j+1)) w v)
  (hk:∀K:Act→Prop,(∀a,wpPhase P C M R ops Q rest (i+1) a→K a)→K (a.put o.dst v)):wpPhase P C M R ops Q (o::rest) i a:=by
 unfold wpPhase phOp;rw[if_pos hw];refine⟨v,fun k h1 h2 w hC=>?_,hk _ fun _ h=>h⟩;obtain rfl:k=j:=by omega
 unfold phNext;rw[hM];exact h w hC
theorem ph_nil(h:Q a):wpPhase P C M R ops Q [] i a:=h
theorem ph_load {T : TypeId} {x : Operand} {n : Nat} {g : Nat} {t : TypeId} {cs : List Value} (hM : M.contains i = false) (hw : Region.wanted o (yielded ops a.tmps) = true) (ho : o.op = .load T x) (hT : RowT P T n)
  (hb:∀k,phLo R i≤k→k≤phHi R i→∀w,C k w→Blk w g t cs) (hx:a.eval x=.pointer (some ⟨g,0,none⟩)) (hn:cs.length=n)
  (hk:∀K:Act→Prop,(∀a,wpPhase P C M R ops Q rest (i+1) a→K a)→K (a.put o.dst (.agg cs.toArray))):wpPhase P C M R ops Q (o::rest) i a:=by
 refine ph_value hM hw (fun k h1 h2 w hC=>?_) hk;obtain⟨d,hu,hd,hi⟩:=hT;have hrun:=run_loadVar_row (P:=P) w g t T cs.toArray (0,0) d (hb k h1 h2 w hC) hu (by revert hd;cases d <;> simp) (by rw[hi];simp [hn]);unfold execOp;simp only [ho,hx,Instr.loadAt,Instr.sureAddr,Sem.run_bind,Sem.run_pure,Result.andThen_ok,hrun]
theorem ph_loadmk {T : TypeId} {x : Operand} {n b off : Nat} {cs : List Value} (hM : M.contains i = false) (hw : Region.wanted o (yielded ops a.tmps) = true) (ho : o.op = .load T x) (hT : RowT P T n)
  (hb:∀k,phLo R i≤k→k≤phHi R i→∀w,C k w→∀j u,cs[j]? = some u→w.cell? ⟨b,off+j,none⟩=some u) (hx:a.eval x=.pointer (some ⟨b,off,none⟩)) (hn:cs.length=n)
  (hk:∀K:Act→Prop,(∀a,wpPhase P C M R ops Q rest (i+1) a→K a)→K (a.put o.dst (.agg cs.toArray))):wpPhase P C M R ops Q (o::rest) i a:=by
 refine ph_value hM hw (fun k h1 h2 w hC=>?_) hk;obtain⟨d,hu,hd,hi⟩:=hT;have hrun:=run_loadVar_mid (P:=P) w b off T cs d (hb k h1 h2 w hC) hu (by cases d <;> simp_all) (by rw[hi,hn]);unfold execOp;simp only [ho,hx,Instr.loadAt,Instr.sureAddr,Sem.run_bind,Sem.run_pure,Result.andThen_ok,hrun]
theorem ph_alloc {T : TypeId} {zs : List Value} {g : Nat} (j : Nat) (hM : M.contains i = true) (hl : phLo R i = j) (hh : phHi R i = j) (hw : Region.wanted o (yielded ops a.tmps) = true) (ho : o.op = .alloc T)
  (hz:(P.info? T).map (·.zero)=some (some (.agg zs.toArray))) (hC:∀w,C j w→w.heap.size=g∧C (j+1) (w.alloc (.cells zs.toArray T)))
  (hk:∀K:Act→Prop,(∀a,wpPhase P C M R ops Q rest (i+1) a→K a)→K (a.put o.dst (.pointer (some ⟨g,0,none⟩)))):wpPhase P C M R ops Q (o::rest) i a:=by
 refine ph_write j hM hl hh hw (fun w hc=>?_) hk;obtain⟨inf,hi,hzz⟩:=Option.map_eq_some_iff.1 hz;obtain⟨h1,h2⟩:=hC w hc
 have hrun:(Instr.alloc T true (.tuple #[])).run P w=.ok (.pointer (some ⟨w.heap.size,0,none⟩)) (w.alloc (.cells zs.toArray T)):=by
  simp [Instr.alloc,zeroValue,typeInfo,hi,hzz,newVar,newRow,Value.cells]
 unfold phAt execOp;simp only [ho,Sem.run_bind,hrun,Result.andThen_ok,Sem.run_pure];exact⟨h2,by rw[h1]⟩
theorem ph_store {T : TypeId} {x y : Operand} {n : Nat} {g : Nat} {t : TypeId} {cs : List Value} (j : Nat) (hM : M.contains i = true) (hl : phLo R i = j) (hh : phHi R i = j) (hw : Region.wanted o (yielded ops a.tmps) = true) (ho : o.op = .store T x y) (hT : RowT P T n)
  (hx:a.eval x=.pointer (some ⟨g,0,none⟩)) (hy:a.eval y=.agg cs.toArray) (hn:cs.length=n) (h1:∀u∈cs,u.oneCell'=true)
  (hC:∀w,C j w→∃old,Blk w g t old∧old.length=n∧∀w',Blk w' g t cs→w.grownBy w' (some g)→w'.heap.size=w.heap.size→C (j+1) w')
  (hk:∀K:Act→Prop,(∀a,wpPhase P C M R ops Q rest (i+1) a→K a)→K (a.put o.dst undef)):wpPhase P C M R ops Q (o::rest) i a:=by
 refine ph_write j hM hl hh hw (fun w hc=>?_) hk;obtain⟨old,hb,ho2,h2⟩:=hC w hc;unfold phAt execOp;simp only [ho,hx,hy,Sem.run_bind,run_storeb hT hb ho2 hn h1,Result.andThen_ok,Sem.run_pure];exact⟨h2 _ (setRow_heap w g _ _ t _ hb) ⟨rfl,rfl,rfl,by simp,fun k _ hk=>setRow_other w g k _ (fun e=>hk (by simp [e]))⟩ (by simp),rfl⟩
theorem ph_run {v : Value} (j : Nat) (hM : M.contains i = true) (hl : phLo R i = j) (hh : phHi R i = j) (hw : Region.wanted o (yielded ops a.tmps) = true)
  (h:∀w,C j w→∃w',(execOp a.eval o).run P w=.ok (.value v) w'∧C (j+1) w')
  (hk:∀K:Act→Prop,(∀a,wpPhase P C M R ops Q rest (i+1) a→K a)→K (a.put o.dst v)):wpPhase P C M R ops Q (o::rest) i a:=by
 refine ph_write j hM hl hh hw (fun w hc=>?_) hk;obtain⟨w',h1,h2⟩:=h w hc;unfold phAt;rw[h1];exact⟨h2,rfl⟩
theorem ph_runs (j : Nat) (hM : M.contains i = true) (hl : phLo R i = j) (hh : phHi R i = j) (hw : Region.wanted o (yielded ops a.tmps) = true)
  (h:∀w,C j w→∃w',(execOp a.eval o).run P w=.ok .skip w'∧C (j+1) w')
  (hk:∀K:Act→Prop,(∀a,wpPhase P C M R ops Q rest (i+1) a→K a)→K (a.put o.dst undef)):wpPhase P C M R ops Q (o::rest) i a:=by
 refine ph_write j hM hl hh hw (fun w hc=>?_) hk;obtain⟨w',h1,h2⟩:=h w hc;unfold phAt;rw[h1];exact⟨h2,rfl⟩
end
def newC(w0:World)(T:TypeId)(zs cs:List Value):Nat→World→Prop
 | 0,w=>Below w0.heap.size w0 w∧w.heap.size=w0.heap.size
 | 1,w=>Below w0.heap.size w0 w∧w.heap.size=w0.heap.size+1∧Blk w w0.heap.size T zs
 | _+2,w=>Below w0.heap.size w0 w∧w.heap.size=w0.heap.size+1∧Blk w w0.heap.size T cs
section
variable {w0:World} {T:TypeId} {zs cs:List Value}
theorem newC.low:∀(k:Nat) (w:World),newC w0 T zs cs k w→Below w0.heap.size w0 w
 | 0,_,h=>h.1
 | 1,_,h=>h.1
 | _+2,_,h=>h.1
theorem newC.start:newC w0 T zs cs 0 w0.drew:=⟨Drawn.all (Drawn.one w0),rfl⟩
theorem newC.lay(w:World)(h:newC w0 T zs cs 0 w):w.heap.size=w0.heap.size∧newC w0 T zs cs 1 (w.alloc (.cells zs.toArray T)):=
 ⟨h.2,h.1.alloc (by rw[h.2];exact Nat.le_refl _) _,by simp [h.2],by rw[← h.2];exact heap_alloc_new _ _⟩
theorem newC.put{n:Nat}(hz:zs.length=n)(w:World)(h:newC w0 T zs cs 1 w):∃old,Blk w w0.heap.size T old∧old.length=n∧∀w',Blk w' w0.heap.size T cs→w.grownBy w' (some w0.heap.size)→w'.heap.size=w.heap.size→newC w0 T zs cs 2 w':=
 ⟨zs,h.2.2,hz,fun w' hb hg hs=>⟨h.1.grown hg (by rw[h.2.1];omega) (fun k hk=>by cases hk;exact Nat.le_refl _),by rw[hs,h.2.1],hb⟩⟩
end
structure Touched (l:List Nat) (w w':World):Prop where
 os:w'.os=w.os
 tape:w'.tape=w.tape
 output:w'.output=w.output
 size:w.heap.size≤w'.heap.size
 block:∀k,k < w.heap.size→k∉l→w'.heap[k]? = w.heap[k]?
section
variable {l:List Nat} {w w1 w2:World}
theorem Touched.refl(l:List Nat)(w:World):Touched l w w:=⟨rfl,rfl,rfl,Nat.le_refl _,fun _ _ _=>rfl⟩
theorem Touched.trans(h:Touched l w w1)(k:Touched l w1 w2):Touched l w w2:=
 ⟨k.os.trans h.os,k.tape.trans h.tape,k.output.trans h.output,Nat.le_trans h.size k.size,fun i hi hn=>(k.block i (Nat.lt_of_lt_of_le hi h.size) hn).trans (h.block i hi hn)⟩
theorem Touched.of_below(h:Below w.heap.size w w1):Touched l w w1:=⟨h.os,h.tape,h.output,h.size,fun k hk _=>h.block k hk⟩
theorem Touched.below{B:Nat}(h:Touched l w w1)(hl:∀k∈l,B≤k)(hB:B≤w.heap.size):Below B w w1:=
 ⟨h.os,h.tape,h.output,h.size,fun k hk=>h.block k (by omega) (fun hm=>by have:=hl k hm;omega)⟩
theorem Touched.step(h:Touched l w w1)(k:Below w1.heap.size w1 w2):Touched l w w2:=h.trans (.of_below k)
theorem Touched.grown{g:Nat}(h:Touched l w w1)(k:w1.grownBy w2 (some g))(hg:g∈l∨w.heap.size≤g):Touched l w w2:=
 ⟨k.os.trans h.os,k.tape.trans h.tape,k.output.trans h.output,Nat.le_trans h.size k.size,fun i hi hn=>(k.block i (Nat.lt_of_lt_of_le hi h.size) (fun e=>by cases e;rcases hg with hg|hg <;> first|exact hn hg|omega)).trans (h.block i hi hn)⟩
end
theorem wpl_wanted {P : Program} {ops : Array Oper} {rest : List Oper} {o : Oper} {a : Act} {w : World} {Q : Exit → Act → World → Prop} (hw : Region.wanted o (yielded ops a.tmps) = true)
  (h:∀K:Act→World→Prop,(∀a w,wpList P ops Q rest a w→K a w)→o.wp P a w K Q):wpList P ops Q (o::rest) a w:=by
 unfold wpList;rw[if_pos hw];exact .inl (h _ fun _ _ h=>h)
theorem wpl_loadw {P : Program} {ops : Array Oper} {rest : List Oper} {o : Oper} {a : Act} {w : World} {Q : Exit → Act → World → Prop} (hw : Region.wanted o (yielded ops a.tmps) = true) {T : TypeId} {x : Operand} (ho : o.op = .load T x) {n : Nat} (hT : RowT P T n) {g : Nat} {t : TypeId} {cs : List Value} (hb : Blk w g t cs) (hx : a.eval x = .pointer (some ⟨g, 0, none⟩)) (hn : cs.length = n)
  (h:wpList P ops Q rest (a.put o.dst (.agg cs.toArray)) w):wpList P ops Q (o::rest) a w:=by
 refine wpl_wanted hw fun K hK=>?_
 obtain⟨d,hu,hd,hi⟩:=hT;have hrun:=run_loadVar_row (P:=P) w g t T cs.toArray (0,0) d hb hu (by revert hd;cases d <;> simp) (by rw[hi];simp [hn]);unfold Oper.wp execOp;simp only [ho,hx,Instr.loadAt,Instr.sureAddr,Sem.run_bind,Sem.run_pure,Result.andThen_ok,hrun];exact hK _ _ h
theorem ret_cell_tmp {P : Program} {fn : Func} {a : Act} {w : World} {p q : Tmp} {ty : TypeId} (h : fn.results = #[.cell p ty, .tmp q]) {n : Nat} (hT : RowT P ty n) {g : Nat} {t : TypeId} {cs : List Value} (hb : Blk w g t cs) (hp : a.tmps.getD p undef = .pointer (some ⟨g, 0, none⟩)) (hn : cs.length = n)
  {v:Value} (hq:a.tmps.getD q undef=v) (hd:a.defers=[])
  {R:Ending→World→Prop} (hR:R (.returned (.tuple #[.agg cs.toArray,v])) w):bodyPost P fn R .ret a w:=by
 obtain⟨d,hu,hdd,hi⟩:=hT;refine bodyPost_ret (v:=.tuple #[.agg cs.toArray,v]) ?_ hd hR;have hp':a.tmps[p]?.getD undef=.pointer (some ⟨g,0,none⟩):=by simpa using hp
 have hq':a.tmps[q]?.getD undef=v:=by simpa using hq
 have hload:=run_loadVar_row (P:=P) w g t ty cs.toArray (0,0) d hb hu (by revert hdd;cases d <;> simp) (by rw[hi];simp [hn]);simp [results,h,hp',hq',asAddr,hload]
end Go.Proofs.YtnnjjbkdjkjnpaaGreatDoor

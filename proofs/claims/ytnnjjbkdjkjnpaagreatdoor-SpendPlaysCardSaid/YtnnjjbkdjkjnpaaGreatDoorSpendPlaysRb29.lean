/- The document's coins: Put,Take. Printed by mkrfc.py. -/
import Derived.Test.YtnnjjbkdjkjnpaaGreatDoorSpendPlaysRb22
set_option linter.unusedSimpArgs false
set_option linter.unusedVariables false
set_option maxRecDepth 100000
set_option maxHeartbeats 16000000
namespace Go.Proofs.YtnnjjbkdjkjnpaaGreatDoor
open Go.RowKit
theorem info_at19:(Tryz.prog.info? 80).map (fun i=>(i.zero,i.size,i.bytes))=some (some (.agg (encAtC (pt 0,noCoin)).toArray),66,80):=by kernel_rfl
theorem el_at19:ElemT Tryz.prog 34 80 66 80:=elemT Tryz.underlying34 info_at19 rfl (by omega)
theorem row_at19:RowT Tryz.prog 80 66:=⟨_,Tryz.underlying80,by kernel_rfl,by kernel_rfl⟩
theorem encAtC_one(e:PtK×CoinV):∀u∈encAtC e,u.oneCell'=true:=fun u hu=>by
 unfold encAtC at hu;rcases List.mem_append.1 hu with h|h
 ·unfold ptV at h;rcases List.mem_append.1 h with h|h
  ·exact mapB_one _ u h
  ·rw[List.mem_singleton]at h;subst h;rfl
 ·exact coinV_one e.2 u h
theorem encAtC_cl{e:PtK×CoinV}(h:AtOKC e):Cl 66 (encAtC e):=⟨encAtC_len h,encAtC_one e⟩
theorem built_at0(parts:List (Nat×Value)):Tryz.prog.built 80 parts=Instr.fill (fun i=>(#[(0,33),(33,33)]:Array (Nat×Nat))[i]?) (encAtC (pt 0,noCoin)).toArray parts:=by kernel_rfl
theorem pt0_ok:PtOK (pt 0):=⟨by simp [pt],by decide⟩
theorem built_at{e:PtK×CoinV}(h:AtOKC e):Tryz.prog.built 80 [(0,.agg (ptV e.1).toArray),(1,.agg (coinV e.2).toArray)]=some (encAtC e).toArray:=by
 have l0:=encAtC_len (e:=(pt 0,noCoin)) ⟨pt0_ok,noCoin_ok⟩;have l1:=ptV_length h.1.1;have l2:=coinV_length h.2;rw[built_at0,fill_cons (off:=0) (s:=33) (cs:=ptV e.1) rfl rfl l1 (by rw[l0];omega),fill_cons (off:=33) (s:=33) (cs:=coinV e.2) rfl rfl l2 (by unfold splice;simp only [List.length_append,List.length_take,List.length_drop,l0,l1];omega),fill_nil];refine congrArg (fun l:List Value=>some l.toArray) ?_;rw[show encAtC e=ptV e.1++coinV e.2 from rfl];unfold splice;rw[l1,l2];have l3:(List.drop (0+33) (encAtC (pt 0,noCoin))).length=33:=by rw[List.length_drop,l0]
 rw[List.take_zero,List.nil_append,List.take_append_of_le_length (by omega),List.take_of_length_le (by omega),List.drop_of_length_le (by simp only [List.length_append];omega),List.append_nil]
def OwnC(w:World)(base:Nat)(A:Option Addr)(n c:Nat)(Y:CoinsL):Prop:=w.ownsRow base 80 66 (.slice A n c) n (Y.flatMap encAtC)∧∀e∈Y,AtOKC e
theorem fmC_len:∀{Y:CoinsL},(∀e∈Y,AtOKC e)→(Y.flatMap encAtC).length=Y.length*66
 |[],_=>rfl
 | e::Y,h=>by rw[List.flatMap_cons,List.length_append,encAtC_len (h e (List.mem_cons_self ..)),fmC_len (fun x hx=>h x (List.mem_cons_of_mem _ hx)),List.length_cons];omega
theorem OwnC.len{w:World}{base n c:Nat}{A:Option Addr}{Y:CoinsL}(h:OwnC w base A n c Y):Y.length=n:=by have h1:=h.1.1;rw[fmC_len h.2]at h1;omega
theorem OwnC.row{w:World}{base n c:Nat}{A:Option Addr}{Y:CoinsL}(h:OwnC w base A n c Y):RowC w A n Y:=⟨Sl.of_own h.1,h.2,h.len⟩
theorem OwnC.nil(w:World)(base:Nat):OwnC w base none 0 0 []:=⟨⟨by simp,.inl ⟨rfl,rfl⟩⟩,by simp⟩
theorem OwnC.grow{w w':World}{base n c:Nat}{A:Option Addr}{Y:CoinsL}(h:OwnC w base A n c Y)(k:Grow w w'):OwnC w' base A n c Y:=⟨own_below h.1 k,h.2⟩
theorem OwnC.snoc{w':World}{base n c':Nat}{A':Option Addr}{Y:CoinsL}{e:PtK×CoinV}(ho:w'.ownsRow base 80 66 (.slice A' (n+1) c') (n+1) (Y.flatMap encAtC++encAtC e))(hy:∀e∈Y,AtOKC e)(he:AtOKC e):OwnC w' base A' (n+1) c' (Y++[e]):=
 ⟨by rw[List.flatMap_append,List.flatMap_cons,List.flatMap_nil,List.append_nil];exact ho,fun x hx=>by
  rcases List.mem_append.1 hx with hx|hx
  ·exact hy x hx
  ·rw[List.mem_singleton]at hx;subst hx;exact he⟩
theorem RowC.grow{w w':World}{A:Option Addr}{n:Nat}{l:CoinsL}(h:RowC w A n l)(hb:Below w.heap.size w w'):RowC w' A n l:=h.call hb
theorem insC_at (X : CoinsL) (p : PtK) (c : CoinV) (k : Nat) {e : PtK × CoinV} (he : X[k]? = some e) :
  ((∃x∈X.take k,cmpP p x.1 < 0)→insC p c (X.take (k+1))=insC p c (X.take k)++[e]∧∃x∈X.take (k+1),cmpP p x.1 < 0) ∧
  ((∀x∈X.take k,¬ cmpP p x.1 < 0)→cmpP p e.1 < 0→insC p c (X.take (k+1))=(X.take k++[(p,c)])++[e]∧∃x∈X.take (k+1),cmpP p x.1 < 0) ∧
  ((∀x∈X.take k,¬ cmpP p x.1 < 0)→¬ cmpP p e.1 < 0→X.take (k+1)=X.take k++[e]∧∀x∈X.take (k+1),¬ cmpP p x.1 < 0):=by
 have h1:X.take (k+1)=X.take k++[e]:=by rw[List.take_add_one,he];rfl
 rw[h1];refine⟨fun h=>⟨insC_done h,?_⟩,fun h h2=>⟨?_,e,by simp,h2⟩,fun h h2=>⟨rfl,fun x hx=>?_⟩⟩
 ·obtain⟨x,hx,hx2⟩:=h;exact⟨x,List.mem_append_left _ hx,hx2⟩
 ·rw[insC_not h];unfold insC;rw[if_pos h2];simp
 ·rcases List.mem_append.1 hx with hx|hx
  ·exact h x hx
  ·rw[List.mem_singleton]at hx;subst hx;exact h2
theorem insC_end{X:CoinsL}{p:PtK}(c:CoinV)(h:∀x∈X,¬ cmpP p x.1 < 0):insC p c X=X++[(p,c)]:=by
 have:=insC_not (c:=c) (Z:=[]) h;rw[List.append_nil]at this;rw[this];rfl
theorem rputC_ok{X:CoinsL}{p:PtK}{c:CoinV}(h1:¬ (p.2 < 0∨16≤p.2∨c.2=0∨4611686018427387904 < c.2))(h2:(lookC X p).isSome=false)(h3:¬ 256≤X.length)(h4:¬ 4611686018427387904 - c.2 < amtC X):rputC X p c=(insC p c X,0):=by
 unfold rputC;rw[if_neg h1,h2,if_neg (by simp),if_neg h3,if_neg h4]
def PutR19(w0:World)(rs:CoinsL×Int)(e:Ending)(w':World):Prop:=∃A' n' c',e=.returned (.tuple #[.slice A' n' c',.int .i64 rs.2])∧RowC w' A' n' rs.1∧Below w0.heap.size w0 w'
theorem rput19_any {A : Option Addr} {n c : Nat} {l : CoinsL} (p : PtK) (v : CoinV) (w : World) (h : RowC w A n l) (hp : PtOK p) (hv : CoinOK v) (hn : n ≤ 256) (hs : amtC l ≤ 4611686018427387904) :
  Calls Tryz.prog 36 #[.slice A n c,ptA p,coinA v] w (PutR19 w (rputC l p v)):=by
 have HH:=kp h;have HP0:=kp hp;have HV0:=kp hv;have HPC:=kp (ptV_cl hp);have HCC:=kp (coinV_cl hv);have HIX:=kp (ptV_ix hp.1);have HAM:=kp (coinV_amt hv);have HGET:=kp (fun w' (h':RowC w' A n l)=>rget19_any (c:=c) p w' h' hp (by omega));have HSUM:=kq (∀w',RowC w' A n l→Calls Tryz.prog 65 #[.slice A n c] w' fun e w''=>e=.returned (.int .u64 (amtC l))∧Below w'.heap.size w' w'') (fun w' h'=>(rsum19_any w' h' (by omega) (by omega)).mono fun e w'' ⟨he,hw⟩=>⟨he,by rw[hw];exact Below.refl _ _⟩);have HYC:=kp (encAtC_cl (e:=(p,v)) ⟨hp,hv⟩);have HBT:=kp (built_at (e:=(p,v)) ⟨hp,hv⟩);have HCMP:=kp (fun(e:PtK×CoinV) (he:AtOKC e) w'=>rccmp_any p e.1 w' hp.1 he.1.1)
 have HLOK:=kp (show CoinOK ((lookC l p).getD noCoin) by
  cases hl:lookC l p with
  | none=>exact noCoin_ok
  | some x =>
   obtain⟨e,he,rfl⟩:=Option.map_eq_some_iff.1 (show(l.find? (fun e=>e.1 == p)).map (·.2)=some x from hl)
   exact(h.2.1 e (List.mem_of_find?_eq_some he)).2)
 have HDC:=kp (coinV_cl HLOK.o);have HNN:=kp (amtC_nn h.2.1);have hl0:=h.2.2;unfold ptA coinA at HGET;unfold ptA coinA;obtain⟨rs,hrs⟩:=xe (rputC l p v);have HRS:=kp hrs;rw[← hrs];obtain⟨th,hth⟩:=xe ((lookC l p).isSome);have HTH:=kp hth;rw[← hth]at HGET;obtain⟨ds,hds⟩:=xe (coinV ((lookC l p).getD noCoin));rw[← hds]at HGET HDC;obtain⟨su,hsu⟩:=xe (amtC l);have HSU:=kp hsu;rw[← hsu]at HSUM HNN hs;obtain⟨ix,hix⟩:=xe p.2;have HIXE:=kp hix;rw[← hix]at HIX;obtain⟨am,ham⟩:=xe v.2;have HAME:=kp ham;rw[← ham]at HAM;have HAMB:=kq (0≤am∧am≤18446744073709551615) (by rw[ham];exact hv.2);obtain⟨xs,hxs⟩:=xe (ptV p);obtain⟨cs,hcs⟩:=xe (coinV v);obtain⟨ys,hys⟩:=xe (encAtC (p,v));have HYE:=kp hys;rw[← hxs,← hcs,← hys]at HBT;rw[← hxs]at HPC HIX HGET HCMP ⊢;rw[← hcs]at HCC HAM ⊢;rw[← hys]at HYC;obtain⟨w_,hw⟩:=xe w;have HB:=kq (Below w.heap.size w w_) (by rw[hw];exact Below.refl _ _)
 suffices H:Calls Tryz.prog 36 #[.slice A n c,.agg xs.toArray,.agg cs.toArray] w_ (PutR19 w rs) by rw[hw]at H;exact H
 clear hw h hp hv hrs hth hds hsu hix ham hxs hcs hys
 go_enter Tryz.func36,Tryz.ntmps36
 go_wp2_with (with_reducible first|refine wpl_box (o:=⟨some 4,_,_,_,_,_⟩) rfl rfl rfl ?_);intro v_ b_ y_ s_;have HX_:=kp (at_mk b_ HPC.o.len);clear b_ s_;have HG_:=kp HB.o.size;replace HB:=kp (HB.o.grow' y_);generalize x_:w_.heap.size=g4 at HX_ HG_ ⊢;clear x_;have HP_g:=HG_;clear HG_;have HP:=HX_;clear y_ HX_;try clear w_
 rename World=>w_;go_wp2_with (with_reducible first|refine wpl_box (o:=⟨some 5,_,_,_,_,_⟩) rfl rfl rfl ?_);intro v_ b_ y_ s_;have HX_:=kp (at_mk b_ HCC.o.len);clear b_ s_;have HG_:=kp HB.o.size;replace HB:=kp (HB.o.grow' y_);replace HP:=kp (HP.o.grow y_);generalize x_:w_.heap.size=g5 at HX_ HG_ ⊢;clear x_;have HC_g:=HG_;clear HG_;have HC:=HX_;clear y_ HX_;try clear w_
 rename World=>w_;have c32:=HP.o.blk.at_ HIX.o;have d32:=HC.o.blk.at_ HAM.o
 have HR5:=kp (show(ix < 0∨16≤ix∨am=0∨4611686018427387904 < am)→rs=(l,5) from fun h=>by
  rw[HRS.o];unfold rputC;rw[if_pos (by rw[← HIXE.o,← HAME.o];exact h)])
 rcases Int.lt_or_le ix 0 with h1|h1
 ·go_wp2_with fail;refine ret_t_t rfl rfl rfl rfl ?_;rw[HR5.o (.inl h1)];exact⟨A,n,c,rfl,HH.o.call HB.o,HB.o⟩
 have h1f:(ix < 0)=False:=eq_false (by omega);rcases Int.lt_or_le 15 ix with h2|h2
 ·go_wp2_with fail;refine ret_t_t rfl rfl rfl rfl ?_;rw[HR5.o (.inr (.inl (by omega)))];exact⟨A,n,c,rfl,HH.o.call HB.o,HB.o⟩
 have h2f:(15 < ix)=False:=eq_false (by omega);by_cases h3:am=0
 ·have h3e:(am == 0)=true:=by simpa using h3
  go_wp2_with fail;refine ret_t_t rfl rfl rfl rfl ?_;rw[HR5.o (.inr (.inr (.inl h3)))];exact⟨A,n,c,rfl,HH.o.call HB.o,HB.o⟩
 have h3f:(am == 0)=false:=by simpa using h3
 rcases Int.lt_or_le 4611686018427387904 am with h4|h4
 ·go_wp2_with fail;refine ret_t_t rfl rfl rfl rfl ?_;rw[HR5.o (.inr (.inr (.inr h4)))];exact⟨A,n,c,rfl,HH.o.call HB.o,HB.o⟩
 have h4f:(4611686018427387904 < am)=False:=eq_false (by omega);have HNR:=kq (¬ (p.2 < 0∨16≤p.2∨v.2=0∨4611686018427387904 < v.2)) (by rw[← HIXE.o,← HAME.o];omega);clear HR5;go_wp2_with (with_reducible refine wlb 34 row_point HP.o.blk HP.o.len ?_);go_wp2_with fail;refine(HGET.o w_ (HH.o.call HB.o)).mono ?_;rintro e w_ ⟨rfl,y_⟩;replace HB:=kp (HB.o.grow' y_);replace HP:=kp (HP.o.grow y_);replace HC:=kp (HC.o.grow y_);clear y_;clear c32 d32 HGET;go_wp2_with (with_reducible first|refine wpl_alloc (o:=⟨some 8,_,_,_,_,_⟩) rfl rfl zero_coin ?_);intro w1_ hb1_ hbw1_ hsz1_;have HB1_:=kp (at_mk hb1_ len_coin);have HBW1_:=kp hbw1_;have HZ1_:=kp hsz1_;clear hb1_ hbw1_ hsz1_;go_wp2_with (with_reducible refine wsb row_coin HB1_.o.blk HB1_.o.len HDC.o.len HDC.o.one ?_);intro v_ b_ g_ s_;have y_:=var_grow HBW1_.o HZ1_.o g_;have HX_:=kp (at_mk b_ HDC.o.len);clear b_ g_ s_ HB1_ HBW1_ HZ1_;replace HB:=kp (HB.o.grow' y_);replace HP:=kp (HP.o.grow y_);replace HC:=kp (HC.o.grow y_);generalize x_:w_.heap.size=g8 at HX_ ⊢;clear x_;have HD:=HX_;clear y_ HX_;clear w1_;try clear w_
 rename World=>w_;cases th with
 | true =>
  have HR24:=kq (rs=(l,24)) (by rw[HRS.o];unfold rputC;rw[if_neg HNR.o,if_pos HTH.o.symm]);go_wp2_with fail;refine ret_t_t rfl rfl rfl rfl ?_;rw[HR24.o];exact⟨A,n,c,rfl,HH.o.call HB.o,HB.o⟩
 | false =>
  rcases Nat.lt_or_ge n 256 with hn2|hn2
  rotate_left
  ·obtain rfl:n=256:=by omega
   have HR18:=kq (rs=(l,18)) (by rw[HRS.o];unfold rputC;rw[if_neg HNR.o,if_neg (by rw[← HTH.o];simp),if_pos (by omega)]);go_wp2_with fail;refine ret_t_t rfl rfl rfl rfl ?_;rw[HR18.o];exact⟨A,256,c,rfl,HH.o.call HB.o,HB.o⟩
  have hn3:(n:Int) < 256:=by omega
  obtain⟨md,hmd⟩:=xe (4611686018427387904 - am);have HMD:=kp hmd;have v1:IntKind.u64.wrap (4611686018427387904 - am)=md:=by rw[hmd];exact u64_in _ ⟨by have:=HAMB.o;omega,by have:=HAMB.o;omega⟩
  clear hmd;try go_wp2_with fail
  repeat' (first|(with_reducible refine wpp (id:=8) Grow [0,4,0,1,0,0] (.get 0 (.get 2 (.get 3 (.get 4 (.act 1 (.get 5 .done)))))) Grow.refl Grow.trans ?_)|go_values|go_skip|go_guarded|go_step|go_upon|go_back)
  intro w_ hd_;have y_:=hd_.grow;replace HB:=kp (HB.o.grow' y_);replace HP:=kp (HP.o.grow y_);replace HC:=kp (HC.o.grow y_);clear y_ hd_;have d32:=HC.o.blk.at_ HAM.o;repeat (first|(refine plc (fun K hK=>?_);go_simp;refine hK _ _ ?_;clear hK K)|(refine pls (fun K hK=>?_);go_simp;refine hK _ _ ?_;clear hK K)|(refine psa (fun K hK=>?_);go_simp;refine hK _ _ ?_;clear hK K)|(refine pl_load rfl rfl (by first|exact wanted_none rfl|(go_simp;done)|rfl) rfl (by first|rfl|(go_simp;rfl)) (by kernel_rfl) (by first|exact d32) (fun K hK=>?_);go_simp;refine hK _ _ ?_;clear hK K)|(refine pl_loadnow rfl rfl (by first|exact wanted_none rfl|(go_simp;done)|rfl) rfl (by first|rfl|(go_simp;rfl)) (by kernel_rfl) (by first|exact d32) (fun K hK=>?_);go_simp;refine hK _ _ ?_;clear hK K))
  refine pl_act rfl (by first|exact wanted_none rfl|(go_simp;done)|rfl) (fun K hK=>?_);go_wp2_with fail;refine(HSUM.o _ (HH.o.call HB.o)).mono ?_;rintro e w_ ⟨rfl,y_⟩;go_wp2_with fail;refine hK _ _ (fun _=>y_) ?_;clear hK K;replace HB:=kp (HB.o.grow' y_);replace HP:=kp (HP.o.grow y_);replace HC:=kp (HC.o.grow y_);clear y_;repeat ((first|refine plc (fun K hK=>?_)|refine pls (fun K hK=>?_)|refine psa (fun K hK=>?_));go_simp;refine hK _ _ ?_;clear hK K)
  refine pl_done ?_;clear d32 HSUM;clear v1;rcases Int.lt_or_le md su with h5|h5
  ·have HR6:=kq (rs=(l,6)) (by rw[HRS.o];unfold rputC;rw[if_neg HNR.o,if_neg (by rw[← HTH.o];simp),if_neg (by omega),← HAME.o,← HSU.o,← HMD.o,if_pos h5]);go_wp2_with fail;refine ret_t_t rfl rfl rfl rfl ?_;rw[HR6.o];exact⟨A,n,c,rfl,HH.o.call HB.o,HB.o⟩
  have h5f:(md < su)=False:=eq_false (by omega);have HRS1:=kq (rs=(insC p v l,0)) (by rw[HRS.o];exact rputC_ok HNR.o HTH.o.symm (by omega) (by rw[← HAME.o,← HSU.o,← HMD.o];omega));obtain⟨z0,hz0⟩:=xe w_.heap.size;have HP_z:=kq (g4 < z0) (by rw[hz0];exact HP.o.lt);have HC_z:=kq (g5 < z0) (by rw[hz0];exact HC.o.lt);have HZ0:=kq (w.heap.size≤z0) (by rw[hz0];exact HB.o.size);have HZL:=kq (z0≤w_.heap.size) (by rw[hz0];exact Nat.le_refl _);clear h1 h2 h3 h4 h1f h2f h3f h4f hz0 HRS hs;go_wp2_with fail;clear h5f h5;go_loopw [10,11,12] (fun s10 s11 iv wr=>∃(k m:Nat) (A4:Option Addr) (c4:Nat) (Y:CoinsL) (dn:Bool),k≤n∧m≤2*k+1∧iv=.int .i64 k∧s10=.slice A4 m c4∧s11=.bool dn∧Hid ((dn=true→Y=insC p v (l.take k)∧∃x∈l.take k,cmpP p x.1 < 0)∧(dn=false→Y=l.take k∧∀x∈l.take k,¬ cmpP p x.1 < 0))∧Hid (OwnC wr z0 A4 m c4 Y∧At wr g4 69 33 xs∧At wr g5 77 33 cs∧Below w.heap.size w wr∧z0≤wr.heap.size)) (fun _ _ iv _=>n - (intOf iv).toNat)
  case atStart=>exact⟨0,0,none,0,[],false,by omega,by omega,rfl,rfl,rfl,kp ⟨(fun h=>by cases h),fun _=>⟨by simp,by simp⟩⟩,kp ⟨OwnC.nil _ _,HP.o,HC.o,HB.o,HZL.o⟩⟩
  case round =>
   obtain⟨k,m,A4,c4,Y,dn,hk,hm,rfl,rfl,rfl,hY,hI⟩:=hrel;have HY:=kp hY.o;clear HP HC HB HZL hY;have HO:=kp hI.o.1;have HP:=kp hI.o.2.1;have HC:=kp hI.o.2.2.1;have HB:=kp hI.o.2.2.2.1;have HZL:=kp hI.o.2.2.2.2;clear hI;rename World=>w_;by_cases hlt:k < n
   ·obtain⟨b,off,e,rfl,hbl,he,hok,hcc⟩:=HH.o.at_ hlt;have HE:=kp he;have HOK:=kp hok;have HIA:=kp (insC_at l p v k he);have HMC:=kp (fun w' (hb:Below w.heap.size w w')=>show MidAt w' b (off+k*66) (encAtC e) from fun j u hu=>(hb.cell (p:=⟨b,off+k*66+j,none⟩) hbl).trans (hcc j u hu));have HEC:=kp (encAtC_cl hok);have HEP:=kp (fun j u (hu:(ptV e.1)[j]? = some u)=>encAtC_pt hok hu);have HPE:=kp (ptV_cl hok.1);have HCM:=kp (HCMP.o e hok);obtain⟨zc,hzc⟩:=xe (cmpP p e.1);have HZC:=kp hzc;rw[← hzc]at HCM;obtain⟨es,hes⟩:=xe (ptV e.1);rw[← hes]at HCM HEP HPE;obtain⟨us,hus⟩:=xe (encAtC e);have HUE:=kp hus;rw[← hus]at HMC HEC HEP;clear he hok hcc hzc hes hus hbl
    go_upto_block 1 with fail
    go_cut [10,11] from 57 to 81 (fun s10 s11 wr=>∃(m:Nat) (A4:Option Addr) (c4:Nat) (Y:CoinsL) (dn:Bool),m≤2*k+3∧s10=.slice A4 m c4∧s11=.bool dn∧Hid ((dn=true→Y=insC p v (l.take (k+1))∧∃x∈l.take (k+1),cmpP p x.1 < 0)∧(dn=false→Y=l.take (k+1)∧∀x∈l.take (k+1),¬ cmpP p x.1 < 0))∧Hid (OwnC wr z0 A4 m c4 Y∧At wr g4 69 33 xs∧At wr g5 77 33 cs∧Below w.heap.size w wr∧z0≤wr.heap.size))
    case first =>
     cases dn with
     | true =>
      obtain⟨hy1,hy2⟩:=HY.o.1 rfl;obtain⟨he1,he2⟩:=HIA.o.1 hy2;have HE1:=kp he1;have HE2:=kp he2;have HY1:=kp hy1;clear hy1 hy2 he1 he2 HY HIA;go_wp2_with fail;repeat' (first|(with_reducible refine wp_phase (id:=15) (fun(_:Nat) w'=>Below w_.heap.size w_ w') [] [(0,0),(0,0),(0,0),(0,0),(0,0),(0,0),(0,0),(0,0),(0,0),(0,0),(0,0),(0,0)] (by kernel_rfl) (by kernel_rfl) ?_ ?_)|go_values|go_skip|go_guarded|go_step|go_upon|go_back)
      ·exact Drawn.all (Drawn.one w_)
      refine ph_value rfl (by first|rfl|go_simp) (fun k_ _ _ w_ hC_=>by first|(go_simp;rfl)|(go_simp;done)|rfl) (fun K hK=>?_);go_simp;refine hK _ ?_;clear hK K;refine ph_value rfl (by first|rfl|go_simp) (fun k_ _ _ w_ hC_=>by first|(go_simp;rfl)|(go_simp;done)|rfl) (fun K hK=>?_);go_simp;refine hK _ ?_;clear hK K;refine ph_value rfl (by first|rfl|go_simp) (fun k_ _ _ w_ hC_=>by first|(go_simp;rfl)|(go_simp;done)|rfl) (fun K hK=>?_);go_simp;refine hK _ ?_;clear hK K;refine ph_skip rfl (by first|rfl|go_simp) ?_
      (intro K hK;go_simp;refine hK _ ?_;clear hK K)
      refine ph_skip rfl (by first|rfl|go_simp) ?_
      (intro K hK;go_simp;refine hK _ ?_;clear hK K)
      refine ph_skip rfl (by first|rfl|go_simp) ?_
      (intro K hK;go_simp;refine hK _ ?_;clear hK K)
      refine ph_skip rfl (by first|rfl|go_simp) ?_
      (intro K hK;go_simp;refine hK _ ?_;clear hK K)
      refine ph_skip rfl (by first|rfl|go_simp) ?_
      (intro K hK;go_simp;refine hK _ ?_;clear hK K)
      refine ph_skip rfl (by first|rfl|go_simp) ?_
      (intro K hK;go_simp;refine hK _ ?_;clear hK K)
      refine ph_skip rfl (by first|rfl|go_simp) ?_
      (intro K hK;go_simp;refine hK _ ?_;clear hK K)
      refine ph_skip rfl (by first|rfl|go_simp) ?_
      (intro K hK;go_simp;refine hK _ ?_;clear hK K)
      refine ph_value rfl (by first|rfl|go_simp) (fun k_ _ _ w_ hC_=>by first|(go_simp;rfl)|(go_simp;done)|rfl) (fun K hK=>?_);go_simp;refine hK _ ?_;clear hK K;refine ph_nil ?_;intro w3_ y_;replace HP:=kp (HP.o.grow y_);replace HC:=kp (HC.o.grow y_);replace HO:=kp (HO.o.grow y_);replace HB:=kp (HB.o.grow' y_);replace HZL:=kp (Nat.le_trans HZL.o y_.size);clear y_;try clear w_
      rename World=>w_;have HM_:=kq (∀j u,us[j]? = some u→w_.cell? ⟨b,off+k*66+j,none⟩=some u) (HMC.o w_ HB.o);go_wp2_with (with_reducible first|refine wlm 79 row_at19 HM_.o HEC.o.len ?_|refine wpl_row1 (o:=⟨some 80,.buildSlice _ _ _,_,_,_,_⟩) rfl rfl el_at19 rfl HEC.o.len (by decide) ?_);intro v_ hr_ y_ hs3_;have HROW:=kp (hr_.sl (sz:=66) (n:=1) (by rw[HEC.o.len]));clear HM_;replace HP:=kp (HP.o.grow y_);replace HC:=kp (HC.o.grow y_);replace HO:=kp (HO.o.grow y_);replace HB:=kp (HB.o.grow' y_);replace HZL:=kp (Nat.le_trans HZL.o y_.size);generalize w_.heap.size=q6 at HROW ⊢;clear hr_ y_ hs3_;try clear w_
      rename World=>w_;have HNE:=kq (∀b,b < z0→some b≠A4.map Addr.block) (fun b hb e=>by have:=own_from HO.o.1 b e.symm;omega);go_wp2_with (first|(at_builtin;refine wpl_apps rfl rfl el_at19 HO.o.1 rfl HROW.o rfl HEC.o.one (by omega) (by omega) HZL.o ?_));intro A7 c7 v_ ho_ x_ hA_;replace HP:=kp (at_mk (HP.o.blk.grown x_ (HNE.o _ HP_z.o)) HP.o.len);replace HC:=kp (at_mk (HC.o.blk.grown x_ (HNE.o _ HC_z.o)) HC.o.len);replace HB:=kq (Below w.heap.size w v_) (HB.o.grown x_ HB.o.size (fun q hq=>Nat.le_trans HZ0.o (own_from HO.o.1 q hq)));replace HZL:=kp (Nat.le_trans HZL.o x_.size);replace HO:=kq (OwnC v_ z0 A7 (m+1) c7 (Y++[e])) (OwnC.snoc (by rw[← HUE.o];exact ho_) HO.o.2 HOK.o);clear ho_ x_ hA_ HNE HROW;try clear w_
      rename World=>w_;go_wp2_with fail
      go_meet
      case rel=>exact⟨m+1,A7,c7,Y++[e],true,by omega,rfl,rfl,kp ⟨fun _=>⟨by rw[HE1.o,← HY1.o],HE2.o⟩,(fun h=>by cases h)⟩,kp ⟨HO.o,HP.o,HC.o,HB.o,HZL.o⟩⟩
     | false =>
      obtain⟨hy1,hy2⟩:=HY.o.2 rfl;have HY1:=kp hy1;have HY2:=kp hy2;have HIB:=kp (HIA.o.2.1 hy2);have HIC:=kp (HIA.o.2.2 hy2);clear hy1 hy2 HY HIA
      have HML:=kp (show ∀w',Below w_.heap.size w_ w'→MidAt w' b (off+k*66) es from fun w' hb j u hu=>by
       have h1:=HMC.o w' (HB.o.grow' hb) (0+j) u (HEP.o j u hu)
       rwa [Nat.zero_add]at h1)
      go_wp2_with fail;repeat' (first|(with_reducible refine wp_phase (id:=15) (fun(_:Nat) w'=>Below w_.heap.size w_ w') [] [(0,0),(0,0),(0,0),(0,0),(0,0),(0,0),(0,0),(0,0),(0,0),(0,0),(0,0),(0,0)] (by kernel_rfl) (by kernel_rfl) ?_ ?_)|go_values|go_skip|go_guarded|go_step|go_upon|go_back)
      ·exact Drawn.all (Drawn.one w_)
      refine ph_value rfl (by first|rfl|go_simp) (fun k_ _ _ w_ hC_=>by first|(go_simp;rfl)|(go_simp;done)|rfl) (fun K hK=>?_);go_simp;refine hK _ ?_;clear hK K;refine ph_value rfl (by first|rfl|go_simp) (fun k_ _ _ w_ hC_=>by first|(go_simp;rfl)|(go_simp;done)|rfl) (fun K hK=>?_);go_simp;refine hK _ ?_;clear hK K;refine ph_value rfl (by first|rfl|go_simp) (fun k_ _ _ w_ hC_=>by first|(go_simp;rfl)|(go_simp;done)|rfl) (fun K hK=>?_);go_simp;refine hK _ ?_;clear hK K;refine ph_load rfl (by first|rfl|go_simp) rfl row_point (fun k _ _ w h=>HP.o.blk.call h) rfl HPC.o.len ?_
      (intro K hK;go_simp;refine hK _ ?_;clear hK K)
      refine ph_value rfl (by first|rfl|go_simp) (fun k_ _ _ w_ hC_=>by first|(go_simp;rfl)|(go_simp;done)|rfl) (fun K hK=>?_);go_simp;refine hK _ ?_;clear hK K;refine ph_value rfl (by first|rfl|go_simp) (fun k_ _ _ w_ hC_=>by first|(go_simp;rfl)|(go_simp;done)|rfl) (fun K hK=>?_);go_simp;refine hK _ ?_;clear hK K;refine ph_value rfl (by first|rfl|go_simp) (fun k_ _ _ w_ hC_=>by first|(go_simp;rfl)|(go_simp;done)|rfl) (fun K hK=>?_);go_simp;refine hK _ ?_;clear hK K;refine ph_value rfl (by first|rfl|go_simp) (fun k_ _ _ w_ hC_=>by first|(go_simp;rfl)|(go_simp;done)|rfl) (fun K hK=>?_);go_simp;refine hK _ ?_;clear hK K;refine ph_loadmk rfl (by first|rfl|go_simp) rfl row_point (fun k _ _ w h j u hu=>HML.o w h j u hu) (by first|rfl|(go_simp;done)) HPE.o.len ?_
      (intro K hK;go_simp;refine hK _ ?_;clear hK K)
      refine ph_call rfl (by first|rfl|go_simp) (fun w=>by first|rfl|(go_simp;rfl)|go_simp) (fun k _ _ w h=>(HCM.o w).mono fun e w' ⟨he,hb⟩=>⟨he,below_step h h.size hb⟩) ?_
      (intro K hK;go_simp;refine hK _ ?_;clear hK K)
      refine ph_value rfl (by first|rfl|go_simp) (fun k_ _ _ w_ hC_=>by first|(go_simp;rfl)|(go_simp;done)|rfl) (fun K hK=>?_);go_simp;refine hK _ ?_;clear hK K;refine ph_value rfl (by first|rfl|go_simp) (fun k_ _ _ w_ hC_=>by first|(go_simp;rfl)|(go_simp;done)|rfl) (fun K hK=>?_);go_simp;refine hK _ ?_;clear hK K;refine ph_nil ?_;intro w3_ y_;replace HP:=kp (HP.o.grow y_);replace HC:=kp (HC.o.grow y_);replace HO:=kp (HO.o.grow y_);replace HB:=kp (HB.o.grow' y_);replace HZL:=kp (Nat.le_trans HZL.o y_.size);clear y_;try clear w_
      rename World=>w_;clear HML;by_cases hz:zc < 0
      ·have HE1:=kp (HIB.o (by rw[← HZC.o];omega));clear HIB HIC;go_wp2_with (with_reducible first|refine wlb 70 row_point HP.o.blk HP.o.len ?_|refine wlb 71 row_coin HC.o.blk HC.o.len ?_|refine wst 72 ?_);refine stop_go ?_;refine wpl_build rfl rfl HBT.o ?_;go_wp2_with (with_reducible first|refine wpl_row1 (o:=⟨some 73,.buildSlice _ _ _,_,_,_,_⟩) rfl rfl el_at19 rfl HYC.o.len (by decide) ?_);intro v_ hr_ y_ hs3_;have HROW:=kp (hr_.sl (sz:=66) (n:=1) (by rw[HYC.o.len]));replace HP:=kp (HP.o.grow y_);replace HC:=kp (HC.o.grow y_);replace HO:=kp (HO.o.grow y_);replace HB:=kp (HB.o.grow' y_);replace HZL:=kp (Nat.le_trans HZL.o y_.size);generalize w_.heap.size=q6 at HROW ⊢;clear hr_ y_ hs3_;try clear w_
       rename World=>w_;have HNE:=kq (∀b,b < z0→some b≠A4.map Addr.block) (fun b hb e=>by have:=own_from HO.o.1 b e.symm;omega);go_wp2_with (first|(at_builtin;refine wpl_apps rfl rfl el_at19 HO.o.1 rfl HROW.o rfl HYC.o.one (by omega) (by omega) HZL.o ?_));intro A7 c7 v_ ho_ x_ hA_;replace HP:=kp (at_mk (HP.o.blk.grown x_ (HNE.o _ HP_z.o)) HP.o.len);replace HC:=kp (at_mk (HC.o.blk.grown x_ (HNE.o _ HC_z.o)) HC.o.len);replace HB:=kq (Below w.heap.size w v_) (HB.o.grown x_ HB.o.size (fun q hq=>Nat.le_trans HZ0.o (own_from HO.o.1 q hq)));replace HZL:=kp (Nat.le_trans HZL.o x_.size);replace HO:=kq (OwnC v_ z0 A7 (m+1) c7 (Y++[(p,v)])) (OwnC.snoc (by rw[← HYE.o];exact ho_) HO.o.2 ⟨HP0.o,HV0.o⟩);clear ho_ x_ hA_ HNE HROW;try clear w_
       rename World=>w_;obtain⟨Y1,hY1⟩:=xe (Y++[(p,v)]);rw[← hY1]at HO;have HYQ:=kp hY1;clear hY1;have HM_:=kq (∀j u,us[j]? = some u→w_.cell? ⟨b,off+k*66+j,none⟩=some u) (HMC.o w_ HB.o);go_wp2_with (with_reducible first|refine wlm 79 row_at19 HM_.o HEC.o.len ?_|refine wpl_row1 (o:=⟨some 80,.buildSlice _ _ _,_,_,_,_⟩) rfl rfl el_at19 rfl HEC.o.len (by decide) ?_);intro v_ hr_ y_ hs3_;have HROW:=kp (hr_.sl (sz:=66) (n:=1) (by rw[HEC.o.len]));clear HM_;replace HP:=kp (HP.o.grow y_);replace HC:=kp (HC.o.grow y_);replace HO:=kp (HO.o.grow y_);replace HB:=kp (HB.o.grow' y_);replace HZL:=kp (Nat.le_trans HZL.o y_.size);generalize w_.heap.size=q6 at HROW ⊢;clear hr_ y_ hs3_;try clear w_
       rename World=>w_;have HNE:=kq (∀b,b < z0→some b≠A7.map Addr.block) (fun b hb e=>by have:=own_from HO.o.1 b e.symm;omega);go_wp2_with (first|(at_builtin;refine wpl_apps rfl rfl el_at19 HO.o.1 rfl HROW.o rfl HEC.o.one (by omega) (by omega) HZL.o ?_));intro A7 c7 v_ ho_ x_ hA_;replace HP:=kp (at_mk (HP.o.blk.grown x_ (HNE.o _ HP_z.o)) HP.o.len);replace HC:=kp (at_mk (HC.o.blk.grown x_ (HNE.o _ HC_z.o)) HC.o.len);replace HB:=kq (Below w.heap.size w v_) (HB.o.grown x_ HB.o.size (fun q hq=>Nat.le_trans HZ0.o (own_from HO.o.1 q hq)));replace HZL:=kp (Nat.le_trans HZL.o x_.size);replace HO:=kq (OwnC v_ z0 A7 ((m+1)+1) c7 (Y1++[e])) (OwnC.snoc (by rw[← HUE.o];exact ho_) HO.o.2 HOK.o);clear ho_ x_ hA_ HNE HROW;try clear w_
       rename World=>w_;go_wp2_with fail
       go_meet
       case rel=>exact⟨m+1+1,A7,c7,Y1++[e],true,by omega,rfl,rfl,kp ⟨fun _=>⟨by rw[HE1.o.1,← HY1.o,HYQ.o],HE1.o.2⟩,(fun h=>by cases h)⟩,kp ⟨HO.o,HP.o,HC.o,HB.o,HZL.o⟩⟩
      ·have HE1:=kp (HIC.o (by rw[← HZC.o];omega));have hz0:0≤zc:=by omega
       clear HIB HIC;have HM_:=kq (∀j u,us[j]? = some u→w_.cell? ⟨b,off+k*66+j,none⟩=some u) (HMC.o w_ HB.o);go_wp2_with (with_reducible first|refine wlm 79 row_at19 HM_.o HEC.o.len ?_|refine wpl_row1 (o:=⟨some 80,.buildSlice _ _ _,_,_,_,_⟩) rfl rfl el_at19 rfl HEC.o.len (by decide) ?_);intro v_ hr_ y_ hs3_;have HROW:=kp (hr_.sl (sz:=66) (n:=1) (by rw[HEC.o.len]));clear HM_;replace HP:=kp (HP.o.grow y_);replace HC:=kp (HC.o.grow y_);replace HO:=kp (HO.o.grow y_);replace HB:=kp (HB.o.grow' y_);replace HZL:=kp (Nat.le_trans HZL.o y_.size);generalize w_.heap.size=q6 at HROW ⊢;clear hr_ y_ hs3_;try clear w_
       rename World=>w_;have HNE:=kq (∀b,b < z0→some b≠A4.map Addr.block) (fun b hb e=>by have:=own_from HO.o.1 b e.symm;omega);go_wp2_with (first|(at_builtin;refine wpl_apps rfl rfl el_at19 HO.o.1 rfl HROW.o rfl HEC.o.one (by omega) (by omega) HZL.o ?_));intro A7 c7 v_ ho_ x_ hA_;replace HP:=kp (at_mk (HP.o.blk.grown x_ (HNE.o _ HP_z.o)) HP.o.len);replace HC:=kp (at_mk (HC.o.blk.grown x_ (HNE.o _ HC_z.o)) HC.o.len);replace HB:=kq (Below w.heap.size w v_) (HB.o.grown x_ HB.o.size (fun q hq=>Nat.le_trans HZ0.o (own_from HO.o.1 q hq)));replace HZL:=kp (Nat.le_trans HZL.o x_.size);replace HO:=kq (OwnC v_ z0 A7 (m+1) c7 (Y++[e])) (OwnC.snoc (by rw[← HUE.o];exact ho_) HO.o.2 HOK.o);clear ho_ x_ hA_ HNE HROW;try clear w_
       rename World=>w_;go_wp2_with fail
       go_meet
       case rel=>exact⟨m+1,A7,c7,Y++[e],false,by omega,rfl,rfl,kp ⟨(fun h=>by cases h),fun _=>⟨by rw[HE1.o.1,← HY1.o],HE1.o.2⟩⟩,kp ⟨HO.o,HP.o,HC.o,HB.o,HZL.o⟩⟩
    case rest =>
     obtain⟨m2,A5,c5,Y2,dn2,hm2,rfl,rfl,hY2,hI2⟩:=hcut;clear HO HP HC HB HZL HY;go_wp2_with fail;go_roundw
     case rel=>exact⟨k+1,m2,A5,c5,Y2,dn2,by omega,by omega,by go_num,rfl,rfl,hY2,hI2⟩
     case measure=>simp [intOf];omega
   ·obtain rfl:k=n:=by omega
    have HT:=kq (l.take k=l) (List.take_of_length_le (by omega));cases dn with
    | true =>
     obtain⟨hy1,hy2⟩:=HY.o.1 rfl;have HY1:=kq (Y=insC p v l) (by rw[hy1,HT.o]);clear hy1 hy2 HY;go_wp2_with fail;refine ret_t_t rfl rfl rfl rfl ?_;rw[HRS1.o];exact⟨A4,m,c4,rfl,by rw[← HY1.o];exact HO.o.row,HB.o⟩
    | false =>
     obtain⟨hy1,hy2⟩:=HY.o.2 rfl;have HY1:=kq (Y=l) (by rw[hy1,HT.o]);have HY2:=kq (insC p v l=l++[(p,v)]) (insC_end v (by have:=hy2;rw[HT.o]at this;exact this));clear hy1 hy2 HY;go_wp2_with (with_reducible first|refine wlb 85 row_point HP.o.blk HP.o.len ?_|refine wlb 86 row_coin HC.o.blk HC.o.len ?_|refine wst 87 ?_);refine stop_go ?_;refine wpl_build rfl rfl HBT.o ?_;go_wp2_with (with_reducible first|refine wpl_row1 (o:=⟨some 88,.buildSlice _ _ _,_,_,_,_⟩) rfl rfl el_at19 rfl HYC.o.len (by decide) ?_);intro v_ hr_ y_ hs3_;have HROW:=kp (hr_.sl (sz:=66) (n:=1) (by rw[HYC.o.len]));replace HP:=kp (HP.o.grow y_);replace HC:=kp (HC.o.grow y_);replace HO:=kp (HO.o.grow y_);replace HB:=kp (HB.o.grow' y_);replace HZL:=kp (Nat.le_trans HZL.o y_.size);generalize w_.heap.size=q6 at HROW ⊢;clear hr_ y_ hs3_;try clear w_
     rename World=>w_;have HNE:=kq (∀b,b < z0→some b≠A4.map Addr.block) (fun b hb e=>by have:=own_from HO.o.1 b e.symm;omega);go_wp2_with (first|(at_builtin;refine wpl_apps rfl rfl el_at19 HO.o.1 rfl HROW.o rfl HYC.o.one (by omega) (by omega) HZL.o ?_));intro A7 c7 v_ ho_ x_ hA_;replace HP:=kp (at_mk (HP.o.blk.grown x_ (HNE.o _ HP_z.o)) HP.o.len);replace HC:=kp (at_mk (HC.o.blk.grown x_ (HNE.o _ HC_z.o)) HC.o.len);replace HB:=kq (Below w.heap.size w v_) (HB.o.grown x_ HB.o.size (fun q hq=>Nat.le_trans HZ0.o (own_from HO.o.1 q hq)));replace HZL:=kp (Nat.le_trans HZL.o x_.size);replace HO:=kq (OwnC v_ z0 A7 (m+1) c7 (Y++[(p,v)])) (OwnC.snoc (by rw[← HYE.o];exact ho_) HO.o.2 ⟨HP0.o,HV0.o⟩);clear ho_ x_ hA_ HNE HROW;try clear w_
     rename World=>w_;go_wp2_with fail;refine ret_t_t rfl rfl rfl rfl ?_;rw[HRS1.o];exact⟨A7,m+1,c7,rfl,by rw[HY2.o,← HY1.o];exact HO.o.row,HB.o⟩
theorem cutC_at (X : CoinsL) (p : PtK) (k : Nat) {e : PtK × CoinV} (he : X[k]? = some e) :
  (e.1=p→cutC (X.take (k+1)) p=cutC (X.take k) p)∧(e.1≠p→cutC (X.take (k+1)) p=cutC (X.take k) p++[e]):=by
 have h1:X.take (k+1)=X.take k++[e]:=by rw[List.take_add_one,he];rfl
 rw[h1];unfold cutC;rw[List.filter_append];refine⟨fun h=>?_,fun h=>?_⟩
 ·rw[List.filter_cons_of_neg (by simpa using h)];simp
 ·rw[List.filter_cons_of_pos (by simpa using h)];simp
theorem rtake19_any {A : Option Addr} {n c : Nat} {l : CoinsL} (p : PtK) (w : World) (h : RowC w A n l) (hp : PtOK p) (hn : n ≤ 1000000) :
  Calls Tryz.prog 62 #[.slice A n c,ptA p] w fun e w'=>∃A' n' c',e=.returned (.slice A' n' c')∧RowC w' A' n' (cutC l p)∧Below w.heap.size w w':=by
 have HH:=kp h;have HPC:=kp (ptV_cl hp);have hl0:=h.2.2;have HQQ:=kp (fun(e:PtK×CoinV) (he:AtOKC e)=>eql_pt e.1 p he.1 hp);unfold ptA;obtain⟨rs,hrs⟩:=xe (cutC l p);have HRS:=kp hrs;rw[← hrs];obtain⟨xs,hxs⟩:=xe (ptV p);rw[← hxs]at HPC HQQ ⊢;obtain⟨w_,hw⟩:=xe w;have HB:=kq (Below w.heap.size w w_) (by rw[hw];exact Below.refl _ _)
 suffices H:Calls Tryz.prog 62 #[.slice A n c,.agg xs.toArray] w_ (fun e w'=>∃A' n' c',e=.returned (.slice A' n' c')∧RowC w' A' n' rs∧Below w.heap.size w w') by rw[hw]at H;exact H
 clear hw h hp hrs hxs
 go_enter Tryz.func62,Tryz.ntmps62
 go_wp2_with (with_reducible first|refine wpl_box (o:=⟨some 3,_,_,_,_,_⟩) rfl rfl rfl ?_);intro v_ b_ y_ s_;have HX_:=kp (at_mk b_ HPC.o.len);clear b_ s_;have HG_:=kp HB.o.size;replace HB:=kp (HB.o.grow' y_);generalize x_:w_.heap.size=g3 at HX_ HG_ ⊢;clear x_;have HP_g:=HG_;clear HG_;have HP:=HX_;clear y_ HX_;try clear w_
 rename World=>w_;obtain⟨z0,hz0⟩:=xe w_.heap.size;have HP_z:=kq (g3 < z0) (by rw[hz0];exact HP.o.lt);have HZ0:=kq (w.heap.size≤z0) (by rw[hz0];exact HB.o.size);have HZL:=kq (z0≤w_.heap.size) (by rw[hz0];exact Nat.le_refl _);clear hz0;go_wp2_with fail;go_loopw [5,6] (fun s5 iv wr=>∃(k m:Nat) (A4:Option Addr) (c4:Nat),k≤n∧m≤k∧iv=.int .i64 k∧s5=.slice A4 m c4∧Hid (OwnC wr z0 A4 m c4 (cutC (l.take k) p)∧At wr g3 69 33 xs∧Below w.heap.size w wr∧z0≤wr.heap.size)) (fun _ iv _=>n - (intOf iv).toNat)
 case atStart=>exact⟨0,0,none,0,by omega,by omega,rfl,rfl,kp ⟨OwnC.nil _ _,HP.o,HB.o,HZL.o⟩⟩
 case round =>
  obtain⟨k,m,A4,c4,hk,hm,rfl,rfl,hI⟩:=hrel;clear HP HB HZL;obtain⟨Y,hY⟩:=xe (cutC (l.take k) p);have HY:=kp hY;have HO:=kq (OwnC wr z0 A4 m c4 Y) (by rw[hY];exact hI.o.1);have HP:=kp hI.o.2.1;have HB:=kp hI.o.2.2.1;have HZL:=kp hI.o.2.2.2;clear hI hY;rename World=>w_;by_cases hlt:k < n
  ·obtain⟨b,off,e,rfl,hbl,he,hok,hcc⟩:=HH.o.at_ hlt;have HOK:=kp hok;have HIA:=kp (cutC_at l p k he);have HMC:=kp (fun w' (hb:Below w.heap.size w w')=>show MidAt w' b (off+k*66) (encAtC e) from fun j u hu=>(hb.cell (p:=⟨b,off+k*66+j,none⟩) hbl).trans (hcc j u hu));have HEC:=kp (encAtC_cl hok);have HEP:=kp (fun j u (hu:(ptV e.1)[j]? = some u)=>encAtC_pt hok hu);have HPE:=kp (ptV_cl hok.1);have HQ:=kp (HQQ.o e hok);obtain⟨r,hr⟩:=xe (decide (e.1=p));rw[← hr]at HQ;have HRR:=kp hr;obtain⟨es,hes⟩:=xe (ptV e.1);rw[← hes]at HEP HPE HQ;obtain⟨us,hus⟩:=xe (encAtC e);have HUE:=kp hus;rw[← hus]at HMC HEC HEP;clear he hok hcc hr hes hus hbl
   have HML:=kp (show ∀w',Below w_.heap.size w_ w'→MidAt w' b (off+k*66) es from fun w' hb j u hu=>by
    have h1:=HMC.o w' (HB.o.grow' hb) (0+j) u (HEP.o j u hu)
    rwa [Nat.zero_add]at h1)
   go_wp2_with fail;repeat' (first|(with_reducible refine wp_phase (id:=5) (fun(_:Nat) w'=>Below w_.heap.size w_ w') [] [(0,0),(0,0),(0,0),(0,0),(0,0),(0,0),(0,0)] (by kernel_rfl) (by kernel_rfl) ?_ ?_)|go_values|go_skip|go_guarded|go_step|go_upon|go_back)
   ·exact Drawn.all (Drawn.one w_)
   refine ph_value rfl (by first|rfl|go_simp) (fun k_ _ _ w_ hC_=>by first|(go_simp;rfl)|(go_simp;done)|rfl) (fun K hK=>?_);go_simp;refine hK _ ?_;clear hK K;refine ph_value rfl (by first|rfl|go_simp) (fun k_ _ _ w_ hC_=>by first|(go_simp;rfl)|(go_simp;done)|rfl) (fun K hK=>?_);go_simp;refine hK _ ?_;clear hK K;refine ph_value rfl (by first|rfl|go_simp) (fun k_ _ _ w_ hC_=>by first|(go_simp;rfl)|(go_simp;done)|rfl) (fun K hK=>?_);go_simp;refine hK _ ?_;clear hK K;refine ph_value rfl (by first|rfl|go_simp) (fun k_ _ _ w_ hC_=>by first|(go_simp;rfl)|(go_simp;done)|rfl) (fun K hK=>?_);go_simp;refine hK _ ?_;clear hK K;refine ph_loadmk rfl (by first|rfl|go_simp) rfl row_point (fun k _ _ w h j u hu=>HML.o w h j u hu) (by first|rfl|(go_simp;done)) HPE.o.len ?_
   (intro K hK;go_simp;refine hK _ ?_;clear hK K)
   refine ph_load rfl (by first|rfl|go_simp) rfl row_point (fun k _ _ w h=>HP.o.blk.call h) rfl HPC.o.len ?_
   (intro K hK;go_simp;refine hK _ ?_;clear hK K)
   have heq:=HQ.o;refine ph_value rfl (by first|rfl|go_simp) (fun k_ _ _ w_ hC_=>by first|(go_simp;rfl)|(go_simp;done)|rfl) (fun K hK=>?_);go_simp;refine hK _ ?_;clear hK K;clear heq;refine ph_nil ?_;intro w3_ y_;replace HP:=kp (HP.o.grow y_);replace HO:=kp (HO.o.grow y_);replace HB:=kp (HB.o.grow' y_);replace HZL:=kp (Nat.le_trans HZL.o y_.size);clear y_;try clear w_
   rename World=>w_;clear HML;cases r with
   | true =>
    have HE1:=kq (cutC (l.take (k+1)) p=Y) (by rw[HIA.o.1 (of_decide_eq_true HRR.o.symm),← HY.o]);go_wp2_with fail;go_roundw
    case rel=>exact⟨k+1,m,A4,c4,by omega,by omega,by go_num,rfl,kp ⟨by rw[HE1.o];exact HO.o,HP.o,HB.o,HZL.o⟩⟩
    case measure=>simp [intOf];omega
   | false =>
    have HE1:=kq (cutC (l.take (k+1)) p=Y++[e]) (by rw[HIA.o.2 (of_decide_eq_false HRR.o.symm),← HY.o]);have HM_:=kq (∀j u,us[j]? = some u→w_.cell? ⟨b,off+k*66+j,none⟩=some u) (HMC.o w_ HB.o);go_wp2_with (with_reducible first|refine wlm 24 row_at19 HM_.o HEC.o.len ?_|refine wpl_row1 (o:=⟨some 25,.buildSlice _ _ _,_,_,_,_⟩) rfl rfl el_at19 rfl HEC.o.len (by decide) ?_);intro v_ hr_ y_ hs3_;have HROW:=kp (hr_.sl (sz:=66) (n:=1) (by rw[HEC.o.len]));clear HM_;replace HP:=kp (HP.o.grow y_);replace HO:=kp (HO.o.grow y_);replace HB:=kp (HB.o.grow' y_);replace HZL:=kp (Nat.le_trans HZL.o y_.size);generalize w_.heap.size=q6 at HROW ⊢;clear hr_ y_ hs3_;try clear w_
    rename World=>w_;have HNE:=kq (∀b,b < z0→some b≠A4.map Addr.block) (fun b hb e=>by have:=own_from HO.o.1 b e.symm;omega);go_wp2_with (first|(at_builtin;refine wpl_apps rfl rfl el_at19 HO.o.1 rfl HROW.o rfl HEC.o.one (by omega) (by omega) HZL.o ?_));intro A7 c7 v_ ho_ x_ hA_;replace HP:=kp (at_mk (HP.o.blk.grown x_ (HNE.o _ HP_z.o)) HP.o.len);replace HB:=kq (Below w.heap.size w v_) (HB.o.grown x_ HB.o.size (fun q hq=>Nat.le_trans HZ0.o (own_from HO.o.1 q hq)));replace HZL:=kp (Nat.le_trans HZL.o x_.size);replace HO:=kq (OwnC v_ z0 A7 (m+1) c7 (Y++[e])) (OwnC.snoc (by rw[← HUE.o];exact ho_) HO.o.2 HOK.o);clear ho_ x_ hA_ HNE HROW;try clear w_
    rename World=>w_;go_wp2_with fail;go_roundw
    case rel=>exact⟨k+1,m+1,A7,c7,by omega,by omega,by go_num,rfl,kp ⟨by rw[HE1.o];exact HO.o,HP.o,HB.o,HZL.o⟩⟩
    case measure=>simp [intOf];omega
  ·obtain rfl:k=n:=by omega
   have HT:=kq (l.take k=l) (List.take_of_length_le (by omega));have HE1:=kq (rs=Y) (by rw[HRS.o,HY.o,HT.o]);go_wp2_with fail;go_ret
   exact⟨A4,m,c4,rfl,by rw[HE1.o];exact HO.o.row,HB.o⟩
end Go.Proofs.YtnnjjbkdjkjnpaaGreatDoor

/- The document's coins: Put,Take. Printed by mkrlc.py. -/
import Derived.Test.YtnnjjbkdjkjnpaaGreatDoorSpendPlaysRb22
set_option linter.unusedSimpArgs false
set_option linter.unusedVariables false
set_option maxRecDepth 100000
set_option maxHeartbeats 16000000
namespace Go.Proofs.YtnnjjbkdjkjnpaaGreatDoor
open Go.RowKit
theorem info_at21:(Tryz.prog.info? 82).map (fun i=>(i.zero,i.size,i.bytes))=some (some (.agg (encAtK noAtK).toArray),98,112):=by kernel_rfl
theorem el_at21:ElemT Tryz.prog 35 82 98 112:=elemT Tryz.underlying35 info_at21 rfl (by omega)
theorem encAtK_cl{e:PtK×LockV}(h:AtOKK e):Cl 98 (encAtK e):=⟨encAtK_len h,encAtK_one e⟩
theorem len_atk:(encAtK noAtK).length=98:=encAtK_len noAtK_ok
theorem zero_atk:(Tryz.prog.info? 82).map (·.zero)=some (some (.agg (encAtK noAtK).toArray)):=zero_atK
theorem row_atk:RowT Tryz.prog 82 98:=row_at21
theorem encAtK_ix{e:PtK×LockV}(h:AtOKK e):(encAtK e)[32]? = some (.int .i64 e.1.2):=by have:=encAtK_pt h (ptV_ix h.1.1);simpa using this
def OwnK(w:World)(base:Nat)(A:Option Addr)(n c:Nat)(Y:LocksL):Prop:=w.ownsRow base 82 98 (.slice A n c) n (Y.flatMap encAtK)∧∀e∈Y,AtOKK e
theorem fmK_len:∀{Y:LocksL},(∀e∈Y,AtOKK e)→(Y.flatMap encAtK).length=Y.length*98
 |[],_=>rfl
 | e::Y,h=>by rw[List.flatMap_cons,List.length_append,encAtK_len (h e (List.mem_cons_self ..)),fmK_len (fun x hx=>h x (List.mem_cons_of_mem _ hx)),List.length_cons];omega
theorem OwnK.len{w:World}{base n c:Nat}{A:Option Addr}{Y:LocksL}(h:OwnK w base A n c Y):Y.length=n:=by have h1:=h.1.1;rw[fmK_len h.2]at h1;omega
theorem OwnK.row{w:World}{base n c:Nat}{A:Option Addr}{Y:LocksL}(h:OwnK w base A n c Y):RowK w A n Y:=⟨Sl.of_own h.1,h.2,h.len⟩
theorem OwnK.nil(w:World)(base:Nat):OwnK w base none 0 0 []:=⟨⟨by simp,.inl ⟨rfl,rfl⟩⟩,by simp⟩
theorem OwnK.grow{w w':World}{base n c:Nat}{A:Option Addr}{Y:LocksL}(h:OwnK w base A n c Y)(k:Grow w w'):OwnK w' base A n c Y:=⟨own_below h.1 k,h.2⟩
theorem OwnK.snoc{w':World}{base n c':Nat}{A':Option Addr}{Y:LocksL}{e:PtK×LockV}(ho:w'.ownsRow base 82 98 (.slice A' (n+1) c') (n+1) (Y.flatMap encAtK++encAtK e))(hy:∀e∈Y,AtOKK e)(he:AtOKK e):OwnK w' base A' (n+1) c' (Y++[e]):=
 ⟨by rw[List.flatMap_append,List.flatMap_cons,List.flatMap_nil,List.append_nil];exact ho,fun x hx=>by
  rcases List.mem_append.1 hx with hx|hx
  ·exact hy x hx
  ·rw[List.mem_singleton]at hx;subst hx;exact he⟩
theorem RowK.grow{w w':World}{A:Option Addr}{n:Nat}{l:LocksL}(h:RowK w A n l)(hb:Below w.heap.size w w'):RowK w' A n l:=h.call hb
theorem insK_at (X : LocksL) (p : PtK) (c : LockV) (k : Nat) {e : PtK × LockV} (he : X[k]? = some e) :
  ((∃x∈X.take k,cmpP p x.1 < 0)→insK p c (X.take (k+1))=insK p c (X.take k)++[e]∧∃x∈X.take (k+1),cmpP p x.1 < 0) ∧
  ((∀x∈X.take k,¬ cmpP p x.1 < 0)→cmpP p e.1 < 0→insK p c (X.take (k+1))=(X.take k++[(p,c)])++[e]∧∃x∈X.take (k+1),cmpP p x.1 < 0) ∧
  ((∀x∈X.take k,¬ cmpP p x.1 < 0)→¬ cmpP p e.1 < 0→X.take (k+1)=X.take k++[e]∧∀x∈X.take (k+1),¬ cmpP p x.1 < 0):=by
 have h1:X.take (k+1)=X.take k++[e]:=by rw[List.take_add_one,he];rfl
 rw[h1];refine⟨fun h=>⟨insK_done h,?_⟩,fun h h2=>⟨?_,e,by simp,h2⟩,fun h h2=>⟨rfl,fun x hx=>?_⟩⟩
 ·obtain⟨x,hx,hx2⟩:=h;exact⟨x,List.mem_append_left _ hx,hx2⟩
 ·rw[insK_not h];unfold insK;rw[if_pos h2];simp
 ·rcases List.mem_append.1 hx with hx|hx
  ·exact h x hx
  ·rw[List.mem_singleton]at hx;subst hx;exact h2
theorem insK_end{X:LocksL}{p:PtK}(c:LockV)(h:∀x∈X,¬ cmpP p x.1 < 0):insK p c X=X++[(p,c)]:=by
 have:=insK_not (c:=c) (Z:=[]) h;rw[List.append_nil]at this;rw[this];rfl
theorem rputK_ok{X:LocksL}{p:PtK}{c:LockV}(h1:¬ (p.2 < 0∨16≤p.2∨c.1.2=0∨4611686018427387904 < c.1.2))(h2:(lookL X p).isSome=false)(h3:¬ 64≤X.length)(h4:¬ 4611686018427387904 - c.1.2 < amtK X):rputK X p c=(insK p c X,0):=by
 unfold rputK;rw[if_neg h1,h2,if_neg (by simp),if_neg h3,if_neg h4]
def PutR21(w0:World)(rs:LocksL×Int)(e:Ending)(w':World):Prop:=∃A' n' c',e=.returned (.tuple #[.slice A' n' c',.int .i64 rs.2])∧RowK w' A' n' rs.1∧Below w0.heap.size w0 w'
theorem rput21_any {A : Option Addr} {n c : Nat} {l : LocksL} (p : PtK) (v : LockV) (w : World) (h : RowK w A n l) (hp : PtOK p) (hv : LockOK v) (hn : n ≤ 64) (hs : amtK l ≤ 4611686018427387904) :
  Calls Tryz.prog 37 #[.slice A n c,.agg (encAtK (p,v)).toArray] w (PutR21 w (rputK l p v)):=by
 have HH:=kp h;have HP0:=kp hp;have HV0:=kp hv;have HPC:=kp (ptV_cl hp);have HIX:=kp (encAtK_ix (e:=(p,v)) ⟨hp,hv⟩);have HAM:=kp (encAtK_amt (e:=(p,v)) ⟨hp,hv⟩);have HYP:=kp (fun j u (hu:(ptV p)[j]? = some u)=>encAtK_pt (e:=(p,v)) ⟨hp,hv⟩ hu);have HGET:=kp (fun w' (h':RowK w' A n l)=>rget21_any (c:=c) p w' h' hp (by omega));have HSUM:=kq (∀w',RowK w' A n l→Calls Tryz.prog 63 #[.slice A n c] w' fun e w''=>e=.returned (.int .u64 (amtK l))∧Below w'.heap.size w' w'') (fun w' h'=>(rsum21_any w' h' (by omega) (by omega)).mono fun e w'' ⟨he,hw⟩=>⟨he,by rw[hw];exact Below.refl _ _⟩);have HYC:=kp (encAtK_cl (e:=(p,v)) ⟨hp,hv⟩);have HCMP:=kp (fun(e:PtK×LockV) (he:AtOKK e) w'=>rccmp_any p e.1 w' hp.1 he.1.1);have HDC:=kp (encAtK_cl (getK_ok hp h.2.1));have HNN:=kp (amtK_nn h.2.1);have hl0:=h.2.2;unfold ptA at HGET;obtain⟨rs,hrs⟩:=xe (rputK l p v);have HRS:=kp hrs;rw[← hrs];obtain⟨th,hth⟩:=xe ((lookL l p).isSome);have HTH:=kp hth;rw[← hth]at HGET;obtain⟨ds,hds⟩:=xe (encAtK (getK l p));rw[← hds]at HGET HDC;obtain⟨su,hsu⟩:=xe (amtK l);have HSU:=kp hsu;rw[← hsu]at HSUM HNN hs;obtain⟨ix,hix⟩:=xe p.2;have HIXE:=kp hix;rw[← hix]at HIX;obtain⟨am,ham⟩:=xe v.1.2;have HAME:=kp ham;rw[← ham]at HAM;have HAMB:=kq (0≤am∧am≤18446744073709551615) (by rw[ham];exact hv.1.2);obtain⟨xs,hxs⟩:=xe (ptV p);obtain⟨ys,hys⟩:=xe (encAtK (p,v));have HYE:=kp hys;rw[← hxs]at HPC HGET HCMP HYP;rw[← hys]at HYC HIX HAM HYP ⊢;obtain⟨w_,hw⟩:=xe w;have HB:=kq (Below w.heap.size w w_) (by rw[hw];exact Below.refl _ _)
 suffices H:Calls Tryz.prog 37 #[.slice A n c,.agg ys.toArray] w_ (PutR21 w rs) by rw[hw]at H;exact H
 clear hw h hp hv hrs hth hds hsu hix ham hxs hys
 go_enter Tryz.func37,Tryz.ntmps37
 go_wp2_with (with_reducible first|refine wpl_box (o:=⟨some 3,_,_,_,_,_⟩) rfl rfl rfl ?_);intro v_ b_ y_ s_;have HX_:=kp (at_mk b_ HYC.o.len);clear b_ s_;have HG_:=kp HB.o.size;replace HB:=kp (HB.o.grow' y_);generalize x_:w_.heap.size=g3 at HX_ HG_ ⊢;clear x_;have HP_g:=HG_;clear HG_;have HP:=HX_;clear y_ HX_;try clear w_
 rename World=>w_;have c32:=HP.o.blk.at_ HIX.o;have d97:=HP.o.blk.at_ HAM.o
 have HR5:=kp (show(ix < 0∨16≤ix∨am=0∨4611686018427387904 < am)→rs=(l,5) from fun h=>by
  rw[HRS.o];unfold rputK;rw[if_pos (by rw[← HIXE.o,← HAME.o];exact h)])
 rcases Int.lt_or_le ix 0 with h1|h1
 ·go_wp2_with fail;refine ret_t_t rfl rfl rfl rfl ?_;rw[HR5.o (.inl h1)];exact⟨A,n,c,rfl,HH.o.call HB.o,HB.o⟩
 have h1f:(ix < 0)=False:=eq_false (by omega);rcases Int.lt_or_le 15 ix with h2|h2
 ·go_wp2_with fail;refine ret_t_t rfl rfl rfl rfl ?_;rw[HR5.o (.inr (.inl (by omega)))];exact⟨A,n,c,rfl,HH.o.call HB.o,HB.o⟩
 have h2f:(15 < ix)=False:=eq_false (by omega);by_cases h3:am=0
 ·have h3e:(am == 0)=true:=by simpa using h3
  go_wp2_with fail;refine ret_t_t rfl rfl rfl rfl ?_;rw[HR5.o (.inr (.inr (.inl h3)))];exact⟨A,n,c,rfl,HH.o.call HB.o,HB.o⟩
 have h3f:(am == 0)=false:=by simpa using h3
 rcases Int.lt_or_le 4611686018427387904 am with h4|h4
 ·go_wp2_with fail;refine ret_t_t rfl rfl rfl rfl ?_;rw[HR5.o (.inr (.inr (.inr h4)))];exact⟨A,n,c,rfl,HH.o.call HB.o,HB.o⟩
 have h4f:(4611686018427387904 < am)=False:=eq_false (by omega);have HNR:=kq (¬ (p.2 < 0∨16≤p.2∨v.1.2=0∨4611686018427387904 < v.1.2)) (by rw[← HIXE.o,← HAME.o];omega);clear HR5;have HM1:=kq (∀j u,xs[j]? = some u→w_.cell? ⟨g3,0+j,none⟩=some u) (fun j u hu=>HP.o.blk.at_ (HYP.o j u hu));go_wp2_with (with_reducible refine wlm 37 row_point HM1.o HPC.o.len ?_);refine(HGET.o w_ (HH.o.call HB.o)).mono ?_;rintro e w_ ⟨rfl,y_⟩;replace HB:=kp (HB.o.grow' y_);replace HP:=kp (HP.o.grow y_);clear y_;clear c32 d97 HGET HM1;go_wp2_with (with_reducible first|refine wpl_alloc (o:=⟨some 6,_,_,_,_,_⟩) rfl rfl zero_atk ?_);intro w1_ hb1_ hbw1_ hsz1_;have HB1_:=kp (at_mk hb1_ len_atk);have HBW1_:=kp hbw1_;have HZ1_:=kp hsz1_;clear hb1_ hbw1_ hsz1_;go_wp2_with (with_reducible refine wsb row_atk HB1_.o.blk HB1_.o.len HDC.o.len HDC.o.one ?_);intro v_ b_ g_ s_;have y_:=var_grow HBW1_.o HZ1_.o g_;have HX_:=kp (at_mk b_ HDC.o.len);clear b_ g_ s_ HB1_ HBW1_ HZ1_;replace HB:=kp (HB.o.grow' y_);replace HP:=kp (HP.o.grow y_);generalize x_:w_.heap.size=g8 at HX_ ⊢;clear x_;have HD:=HX_;clear y_ HX_;clear w1_;try clear w_
 rename World=>w_;cases th with
 | true =>
  have HR24:=kq (rs=(l,24)) (by rw[HRS.o];unfold rputK;rw[if_neg HNR.o,if_pos HTH.o.symm]);go_wp2_with fail;refine ret_t_t rfl rfl rfl rfl ?_;rw[HR24.o];exact⟨A,n,c,rfl,HH.o.call HB.o,HB.o⟩
 | false =>
  rcases Nat.lt_or_ge n 64 with hn2|hn2
  rotate_left
  ·obtain rfl:n=64:=by omega
   have HR18:=kq (rs=(l,18)) (by rw[HRS.o];unfold rputK;rw[if_neg HNR.o,if_neg (by rw[← HTH.o];simp),if_pos (by omega)]);go_wp2_with fail;refine ret_t_t rfl rfl rfl rfl ?_;rw[HR18.o];exact⟨A,64,c,rfl,HH.o.call HB.o,HB.o⟩
  have hn3:(n:Int) < 64:=by omega
  obtain⟨md,hmd⟩:=xe (4611686018427387904 - am);have HMD:=kp hmd;have v1:IntKind.u64.wrap (4611686018427387904 - am)=md:=by rw[hmd];exact u64_in _ ⟨by have:=HAMB.o;omega,by have:=HAMB.o;omega⟩
  clear hmd;try go_wp2_with fail
  repeat' (first|(with_reducible refine wpp (id:=8) Grow [0,4,0,0,1,0,0] (.get 0 (.get 2 (.get 3 (.get 4 (.get 5 (.act 1 (.get 6 .done))))))) Grow.refl Grow.trans ?_)|go_values|go_skip|go_guarded|go_step|go_upon|go_back)
  intro w_ hd_;have y_:=hd_.grow;replace HB:=kp (HB.o.grow' y_);replace HP:=kp (HP.o.grow y_);clear y_ hd_;have d97:=HP.o.blk.at_ HAM.o;repeat (first|(refine plc (fun K hK=>?_);go_simp;refine hK _ _ ?_;clear hK K)|(refine pls (fun K hK=>?_);go_simp;refine hK _ _ ?_;clear hK K)|(refine psa (fun K hK=>?_);go_simp;refine hK _ _ ?_;clear hK K)|(refine pl_load rfl rfl (by first|exact wanted_none rfl|(go_simp;done)|rfl) rfl (by first|rfl|(go_simp;rfl)) (by kernel_rfl) (by first|exact d97) (fun K hK=>?_);go_simp;refine hK _ _ ?_;clear hK K)|(refine pl_loadnow rfl rfl (by first|exact wanted_none rfl|(go_simp;done)|rfl) rfl (by first|rfl|(go_simp;rfl)) (by kernel_rfl) (by first|exact d97) (fun K hK=>?_);go_simp;refine hK _ _ ?_;clear hK K))
  refine pl_act rfl (by first|exact wanted_none rfl|(go_simp;done)|rfl) (fun K hK=>?_);go_wp2_with fail;refine(HSUM.o _ (HH.o.call HB.o)).mono ?_;rintro e w_ ⟨rfl,y_⟩;go_wp2_with fail;refine hK _ _ (fun _=>y_) ?_;clear hK K;replace HB:=kp (HB.o.grow' y_);replace HP:=kp (HP.o.grow y_);clear y_;repeat ((first|refine plc (fun K hK=>?_)|refine pls (fun K hK=>?_)|refine psa (fun K hK=>?_));go_simp;refine hK _ _ ?_;clear hK K)
  refine pl_done ?_;clear d97 HSUM;clear v1;rcases Int.lt_or_le md su with h5|h5
  ·have HR6:=kq (rs=(l,6)) (by rw[HRS.o];unfold rputK;rw[if_neg HNR.o,if_neg (by rw[← HTH.o];simp),if_neg (by omega),← HAME.o,← HSU.o,← HMD.o,if_pos h5]);go_wp2_with fail;refine ret_t_t rfl rfl rfl rfl ?_;rw[HR6.o];exact⟨A,n,c,rfl,HH.o.call HB.o,HB.o⟩
  have h5f:(md < su)=False:=eq_false (by omega);have HRS1:=kq (rs=(insK p v l,0)) (by rw[HRS.o];exact rputK_ok HNR.o HTH.o.symm (by omega) (by rw[← HAME.o,← HSU.o,← HMD.o];omega));obtain⟨z0,hz0⟩:=xe w_.heap.size;have HP_z:=kq (g3 < z0) (by rw[hz0];exact HP.o.lt);have HZ0:=kq (w.heap.size≤z0) (by rw[hz0];exact HB.o.size);have HZL:=kq (z0≤w_.heap.size) (by rw[hz0];exact Nat.le_refl _);clear h1 h2 h3 h4 h1f h2f h3f h4f hz0 HRS hs;go_wp2_with fail;clear h5f h5;go_loopw [8,9,10] (fun s10 s11 iv wr=>∃(k m:Nat) (A4:Option Addr) (c4:Nat) (Y:LocksL) (dn:Bool),k≤n∧m≤2*k+1∧iv=.int .i64 k∧s10=.slice A4 m c4∧s11=.bool dn∧Hid ((dn=true→Y=insK p v (l.take k)∧∃x∈l.take k,cmpP p x.1 < 0)∧(dn=false→Y=l.take k∧∀x∈l.take k,¬ cmpP p x.1 < 0))∧Hid (OwnK wr z0 A4 m c4 Y∧At wr g3 82 98 ys∧Below w.heap.size w wr∧z0≤wr.heap.size)) (fun _ _ iv _=>n - (intOf iv).toNat)
  case atStart=>exact⟨0,0,none,0,[],false,by omega,by omega,rfl,rfl,rfl,kp ⟨(fun h=>by cases h),fun _=>⟨by simp,by simp⟩⟩,kp ⟨OwnK.nil _ _,HP.o,HB.o,HZL.o⟩⟩
  case round =>
   obtain⟨k,m,A4,c4,Y,dn,hk,hm,rfl,rfl,rfl,hY,hI⟩:=hrel;have HY:=kp hY.o;clear HP HB HZL hY;have HO:=kp hI.o.1;have HP:=kp hI.o.2.1;have HB:=kp hI.o.2.2.1;have HZL:=kp hI.o.2.2.2;clear hI;rename World=>w_;by_cases hlt:k < n
   ·obtain⟨b,off,e,rfl,hbl,he,hok,hcc⟩:=HH.o.at_ hlt;have HE:=kp he;have HOK:=kp hok;have HIA:=kp (insK_at l p v k he);have HMC:=kp (fun w' (hb:Below w.heap.size w w')=>show MidAt w' b (off+k*98) (encAtK e) from fun j u hu=>(hb.cell (p:=⟨b,off+k*98+j,none⟩) hbl).trans (hcc j u hu));have HEC:=kp (encAtK_cl hok);have HEP:=kp (fun j u (hu:(ptV e.1)[j]? = some u)=>encAtK_pt hok hu);have HPE:=kp (ptV_cl hok.1);have HCM:=kp (HCMP.o e hok);obtain⟨zc,hzc⟩:=xe (cmpP p e.1);have HZC:=kp hzc;rw[← hzc]at HCM;obtain⟨es,hes⟩:=xe (ptV e.1);rw[← hes]at HCM HEP HPE;obtain⟨us,hus⟩:=xe (encAtK e);have HUE:=kp hus;rw[← hus]at HMC HEC HEP;clear he hok hcc hzc hes hus hbl
    go_upto_block 1 with fail
    go_cut [8,9] from 61 to 84 (fun s10 s11 wr=>∃(m:Nat) (A4:Option Addr) (c4:Nat) (Y:LocksL) (dn:Bool),m≤2*k+3∧s10=.slice A4 m c4∧s11=.bool dn∧Hid ((dn=true→Y=insK p v (l.take (k+1))∧∃x∈l.take (k+1),cmpP p x.1 < 0)∧(dn=false→Y=l.take (k+1)∧∀x∈l.take (k+1),¬ cmpP p x.1 < 0))∧Hid (OwnK wr z0 A4 m c4 Y∧At wr g3 82 98 ys∧Below w.heap.size w wr∧z0≤wr.heap.size))
    case first =>
     cases dn with
     | true =>
      obtain⟨hy1,hy2⟩:=HY.o.1 rfl;obtain⟨he1,he2⟩:=HIA.o.1 hy2;have HE1:=kp he1;have HE2:=kp he2;have HY1:=kp hy1;clear hy1 hy2 he1 he2 HY HIA;go_wp2_with fail;repeat' (first|(with_reducible refine wp_phase (id:=15) (fun(_:Nat) w'=>Below w_.heap.size w_ w') [] [(0,0),(0,0),(0,0),(0,0),(0,0),(0,0),(0,0),(0,0),(0,0),(0,0),(0,0),(0,0),(0,0)] (by kernel_rfl) (by kernel_rfl) ?_ ?_)|go_values|go_skip|go_guarded|go_step|go_upon|go_back)
      ·exact Drawn.all (Drawn.one w_)
      refine ph_value rfl (by first|rfl|go_simp) (fun k_ _ _ w_ hC_=>by first|(go_simp;rfl)|(go_simp;done)|rfl) (fun K hK=>?_);go_simp;refine hK _ ?_;clear hK K;refine ph_value rfl (by first|rfl|go_simp) (fun k_ _ _ w_ hC_=>by first|(go_simp;rfl)|(go_simp;done)|rfl) (fun K hK=>?_);go_simp;refine hK _ ?_;clear hK K;refine ph_value rfl (by first|rfl|go_simp) (fun k_ _ _ w_ hC_=>by first|(go_simp;rfl)|(go_simp;done)|rfl) (fun K hK=>?_);go_simp;refine hK _ ?_;clear hK K;refine ph_skip rfl (by first|rfl|go_simp) ?_
      (intro K hK;go_simp;refine hK _ ?_;clear hK K)
      refine ph_skip rfl (by first|rfl|go_simp) ?_
      (intro K hK;go_simp;refine hK _ ?_;clear hK K)
      refine ph_skip rfl (by first|rfl|go_simp) ?_
      (intro K hK;go_simp;refine hK _ ?_;clear hK K)
      refine ph_skip rfl (by first|rfl|go_simp) ?_
      (intro K hK;go_simp;refine hK _ ?_;clear hK K)
      refine ph_skip rfl (by first|rfl|go_simp) ?_
      (intro K hK;go_simp;refine hK _ ?_;clear hK K)
      refine ph_skip rfl (by first|rfl|go_simp) ?_
      (intro K hK;go_simp;refine hK _ ?_;clear hK K)
      refine ph_skip rfl (by first|rfl|go_simp) ?_
      (intro K hK;go_simp;refine hK _ ?_;clear hK K)
      refine ph_skip rfl (by first|rfl|go_simp) ?_
      (intro K hK;go_simp;refine hK _ ?_;clear hK K)
      refine ph_skip rfl (by first|rfl|go_simp) ?_
      (intro K hK;go_simp;refine hK _ ?_;clear hK K)
      refine ph_value rfl (by first|rfl|go_simp) (fun k_ _ _ w_ hC_=>by first|(go_simp;rfl)|(go_simp;done)|rfl) (fun K hK=>?_);go_simp;refine hK _ ?_;clear hK K;refine ph_nil ?_;intro w3_ y_;replace HP:=kp (HP.o.grow y_);replace HO:=kp (HO.o.grow y_);replace HB:=kp (HB.o.grow' y_);replace HZL:=kp (Nat.le_trans HZL.o y_.size);clear y_;try clear w_
      rename World=>w_;have HM_:=kq (∀j u,us[j]? = some u→w_.cell? ⟨b,off+k*98+j,none⟩=some u) (HMC.o w_ HB.o);go_wp2_with (with_reducible first|refine wlm 82 row_at21 HM_.o HEC.o.len ?_|refine wpl_row1 (o:=⟨some 83,.buildSlice _ _ _,_,_,_,_⟩) rfl rfl el_at21 rfl HEC.o.len (by decide) ?_);intro v_ hr_ y_ hs3_;have HROW:=kp (hr_.sl (sz:=98) (n:=1) (by rw[HEC.o.len]));clear HM_;replace HP:=kp (HP.o.grow y_);replace HO:=kp (HO.o.grow y_);replace HB:=kp (HB.o.grow' y_);replace HZL:=kp (Nat.le_trans HZL.o y_.size);generalize w_.heap.size=q6 at HROW ⊢;clear hr_ y_ hs3_;try clear w_
      rename World=>w_;have HNE:=kq (∀b,b < z0→some b≠A4.map Addr.block) (fun b hb e=>by have:=own_from HO.o.1 b e.symm;omega);go_wp2_with (first|(at_builtin;refine wpl_apps rfl rfl el_at21 HO.o.1 rfl HROW.o rfl HEC.o.one (by omega) (by omega) HZL.o ?_));intro A7 c7 v_ ho_ x_ hA_;replace HP:=kp (at_mk (HP.o.blk.grown x_ (HNE.o _ HP_z.o)) HP.o.len);replace HB:=kq (Below w.heap.size w v_) (HB.o.grown x_ HB.o.size (fun q hq=>Nat.le_trans HZ0.o (own_from HO.o.1 q hq)));replace HZL:=kp (Nat.le_trans HZL.o x_.size);replace HO:=kq (OwnK v_ z0 A7 (m+1) c7 (Y++[e])) (OwnK.snoc (by rw[← HUE.o];exact ho_) HO.o.2 HOK.o);clear ho_ x_ hA_ HNE HROW;try clear w_
      rename World=>w_;go_wp2_with fail
      go_meet
      case rel=>exact⟨m+1,A7,c7,Y++[e],true,by omega,rfl,rfl,kp ⟨fun _=>⟨by rw[HE1.o,← HY1.o],HE2.o⟩,(fun h=>by cases h)⟩,kp ⟨HO.o,HP.o,HB.o,HZL.o⟩⟩
     | false =>
      obtain⟨hy1,hy2⟩:=HY.o.2 rfl;have HY1:=kp hy1;have HY2:=kp hy2;have HIB:=kp (HIA.o.2.1 hy2);have HIC:=kp (HIA.o.2.2 hy2);clear hy1 hy2 HY HIA
      have HML:=kp (show ∀w',Below w_.heap.size w_ w'→MidAt w' b (off+k*98) es from fun w' hb j u hu=>by
       have h1:=HMC.o w' (HB.o.grow' hb) (0+j) u (HEP.o j u hu)
       rwa [Nat.zero_add]at h1)
      go_wp2_with fail;repeat' (first|(with_reducible refine wp_phase (id:=15) (fun(_:Nat) w'=>Below w_.heap.size w_ w') [] [(0,0),(0,0),(0,0),(0,0),(0,0),(0,0),(0,0),(0,0),(0,0),(0,0),(0,0),(0,0),(0,0)] (by kernel_rfl) (by kernel_rfl) ?_ ?_)|go_values|go_skip|go_guarded|go_step|go_upon|go_back)
      ·exact Drawn.all (Drawn.one w_)
      refine ph_value rfl (by first|rfl|go_simp) (fun k_ _ _ w_ hC_=>by first|(go_simp;rfl)|(go_simp;done)|rfl) (fun K hK=>?_);go_simp;refine hK _ ?_;clear hK K;refine ph_value rfl (by first|rfl|go_simp) (fun k_ _ _ w_ hC_=>by first|(go_simp;rfl)|(go_simp;done)|rfl) (fun K hK=>?_);go_simp;refine hK _ ?_;clear hK K;refine ph_value rfl (by first|rfl|go_simp) (fun k_ _ _ w_ hC_=>by first|(go_simp;rfl)|(go_simp;done)|rfl) (fun K hK=>?_);go_simp;refine hK _ ?_;clear hK K;refine ph_value rfl (by first|rfl|go_simp) (fun k_ _ _ w_ hC_=>by first|(go_simp;rfl)|(go_simp;done)|rfl) (fun K hK=>?_);go_simp;refine hK _ ?_;clear hK K;refine ph_loadmk rfl (by first|rfl|go_simp) rfl row_point (fun k _ _ w h j u hu=>(HP.o.blk.call h).at_ (HYP.o j u hu)) (by first|rfl|(go_simp;done)) HPC.o.len ?_
      (intro K hK;go_simp;refine hK _ ?_;clear hK K)
      refine ph_value rfl (by first|rfl|go_simp) (fun k_ _ _ w_ hC_=>by first|(go_simp;rfl)|(go_simp;done)|rfl) (fun K hK=>?_);go_simp;refine hK _ ?_;clear hK K;refine ph_value rfl (by first|rfl|go_simp) (fun k_ _ _ w_ hC_=>by first|(go_simp;rfl)|(go_simp;done)|rfl) (fun K hK=>?_);go_simp;refine hK _ ?_;clear hK K;refine ph_value rfl (by first|rfl|go_simp) (fun k_ _ _ w_ hC_=>by first|(go_simp;rfl)|(go_simp;done)|rfl) (fun K hK=>?_);go_simp;refine hK _ ?_;clear hK K;refine ph_value rfl (by first|rfl|go_simp) (fun k_ _ _ w_ hC_=>by first|(go_simp;rfl)|(go_simp;done)|rfl) (fun K hK=>?_);go_simp;refine hK _ ?_;clear hK K;refine ph_loadmk rfl (by first|rfl|go_simp) rfl row_point (fun k _ _ w h j u hu=>HML.o w h j u hu) (by first|rfl|(go_simp;done)) HPE.o.len ?_
      (intro K hK;go_simp;refine hK _ ?_;clear hK K)
      refine ph_call rfl (by first|rfl|go_simp) (fun w=>by first|rfl|(go_simp;rfl)|go_simp) (fun k _ _ w h=>(HCM.o w).mono fun e w' ⟨he,hb⟩=>⟨he,below_step h h.size hb⟩) ?_
      (intro K hK;go_simp;refine hK _ ?_;clear hK K)
      refine ph_value rfl (by first|rfl|go_simp) (fun k_ _ _ w_ hC_=>by first|(go_simp;rfl)|(go_simp;done)|rfl) (fun K hK=>?_);go_simp;refine hK _ ?_;clear hK K;refine ph_value rfl (by first|rfl|go_simp) (fun k_ _ _ w_ hC_=>by first|(go_simp;rfl)|(go_simp;done)|rfl) (fun K hK=>?_);go_simp;refine hK _ ?_;clear hK K;refine ph_nil ?_;intro w3_ y_;replace HP:=kp (HP.o.grow y_);replace HO:=kp (HO.o.grow y_);replace HB:=kp (HB.o.grow' y_);replace HZL:=kp (Nat.le_trans HZL.o y_.size);clear y_;try clear w_
      rename World=>w_;clear HML;by_cases hz:zc < 0
      ·have HE1:=kp (HIB.o (by rw[← HZC.o];omega));clear HIB HIC;go_wp2_with (with_reducible first|refine wlb 75 row_atk HP.o.blk HP.o.len ?_|refine wpl_row1 (o:=⟨some 76,.buildSlice _ _ _,_,_,_,_⟩) rfl rfl el_at21 rfl HYC.o.len (by decide) ?_);intro v_ hr_ y_ hs3_;have HROW:=kp (hr_.sl (sz:=98) (n:=1) (by rw[HYC.o.len]));replace HP:=kp (HP.o.grow y_);replace HO:=kp (HO.o.grow y_);replace HB:=kp (HB.o.grow' y_);replace HZL:=kp (Nat.le_trans HZL.o y_.size);generalize w_.heap.size=q6 at HROW ⊢;clear hr_ y_ hs3_;try clear w_
       rename World=>w_;have HNE:=kq (∀b,b < z0→some b≠A4.map Addr.block) (fun b hb e=>by have:=own_from HO.o.1 b e.symm;omega);go_wp2_with (first|(at_builtin;refine wpl_apps rfl rfl el_at21 HO.o.1 rfl HROW.o rfl HYC.o.one (by omega) (by omega) HZL.o ?_));intro A7 c7 v_ ho_ x_ hA_;replace HP:=kp (at_mk (HP.o.blk.grown x_ (HNE.o _ HP_z.o)) HP.o.len);replace HB:=kq (Below w.heap.size w v_) (HB.o.grown x_ HB.o.size (fun q hq=>Nat.le_trans HZ0.o (own_from HO.o.1 q hq)));replace HZL:=kp (Nat.le_trans HZL.o x_.size);replace HO:=kq (OwnK v_ z0 A7 (m+1) c7 (Y++[(p,v)])) (OwnK.snoc (by rw[← HYE.o];exact ho_) HO.o.2 ⟨HP0.o,HV0.o⟩);clear ho_ x_ hA_ HNE HROW;try clear w_
       rename World=>w_;obtain⟨Y1,hY1⟩:=xe (Y++[(p,v)]);rw[← hY1]at HO;have HYQ:=kp hY1;clear hY1;have HM_:=kq (∀j u,us[j]? = some u→w_.cell? ⟨b,off+k*98+j,none⟩=some u) (HMC.o w_ HB.o);go_wp2_with (with_reducible first|refine wlm 82 row_at21 HM_.o HEC.o.len ?_|refine wpl_row1 (o:=⟨some 83,.buildSlice _ _ _,_,_,_,_⟩) rfl rfl el_at21 rfl HEC.o.len (by decide) ?_);intro v_ hr_ y_ hs3_;have HROW:=kp (hr_.sl (sz:=98) (n:=1) (by rw[HEC.o.len]));clear HM_;replace HP:=kp (HP.o.grow y_);replace HO:=kp (HO.o.grow y_);replace HB:=kp (HB.o.grow' y_);replace HZL:=kp (Nat.le_trans HZL.o y_.size);generalize w_.heap.size=q6 at HROW ⊢;clear hr_ y_ hs3_;try clear w_
       rename World=>w_;have HNE:=kq (∀b,b < z0→some b≠A7.map Addr.block) (fun b hb e=>by have:=own_from HO.o.1 b e.symm;omega);go_wp2_with (first|(at_builtin;refine wpl_apps rfl rfl el_at21 HO.o.1 rfl HROW.o rfl HEC.o.one (by omega) (by omega) HZL.o ?_));intro A7 c7 v_ ho_ x_ hA_;replace HP:=kp (at_mk (HP.o.blk.grown x_ (HNE.o _ HP_z.o)) HP.o.len);replace HB:=kq (Below w.heap.size w v_) (HB.o.grown x_ HB.o.size (fun q hq=>Nat.le_trans HZ0.o (own_from HO.o.1 q hq)));replace HZL:=kp (Nat.le_trans HZL.o x_.size);replace HO:=kq (OwnK v_ z0 A7 ((m+1)+1) c7 (Y1++[e])) (OwnK.snoc (by rw[← HUE.o];exact ho_) HO.o.2 HOK.o);clear ho_ x_ hA_ HNE HROW;try clear w_
       rename World=>w_;go_wp2_with fail
       go_meet
       case rel=>exact⟨m+1+1,A7,c7,Y1++[e],true,by omega,rfl,rfl,kp ⟨fun _=>⟨by rw[HE1.o.1,← HY1.o,HYQ.o],HE1.o.2⟩,(fun h=>by cases h)⟩,kp ⟨HO.o,HP.o,HB.o,HZL.o⟩⟩
      ·have HE1:=kp (HIC.o (by rw[← HZC.o];omega));have hz0:0≤zc:=by omega
       clear HIB HIC;have HM_:=kq (∀j u,us[j]? = some u→w_.cell? ⟨b,off+k*98+j,none⟩=some u) (HMC.o w_ HB.o);go_wp2_with (with_reducible first|refine wlm 82 row_at21 HM_.o HEC.o.len ?_|refine wpl_row1 (o:=⟨some 83,.buildSlice _ _ _,_,_,_,_⟩) rfl rfl el_at21 rfl HEC.o.len (by decide) ?_);intro v_ hr_ y_ hs3_;have HROW:=kp (hr_.sl (sz:=98) (n:=1) (by rw[HEC.o.len]));clear HM_;replace HP:=kp (HP.o.grow y_);replace HO:=kp (HO.o.grow y_);replace HB:=kp (HB.o.grow' y_);replace HZL:=kp (Nat.le_trans HZL.o y_.size);generalize w_.heap.size=q6 at HROW ⊢;clear hr_ y_ hs3_;try clear w_
       rename World=>w_;have HNE:=kq (∀b,b < z0→some b≠A4.map Addr.block) (fun b hb e=>by have:=own_from HO.o.1 b e.symm;omega);go_wp2_with (first|(at_builtin;refine wpl_apps rfl rfl el_at21 HO.o.1 rfl HROW.o rfl HEC.o.one (by omega) (by omega) HZL.o ?_));intro A7 c7 v_ ho_ x_ hA_;replace HP:=kp (at_mk (HP.o.blk.grown x_ (HNE.o _ HP_z.o)) HP.o.len);replace HB:=kq (Below w.heap.size w v_) (HB.o.grown x_ HB.o.size (fun q hq=>Nat.le_trans HZ0.o (own_from HO.o.1 q hq)));replace HZL:=kp (Nat.le_trans HZL.o x_.size);replace HO:=kq (OwnK v_ z0 A7 (m+1) c7 (Y++[e])) (OwnK.snoc (by rw[← HUE.o];exact ho_) HO.o.2 HOK.o);clear ho_ x_ hA_ HNE HROW;try clear w_
       rename World=>w_;go_wp2_with fail
       go_meet
       case rel=>exact⟨m+1,A7,c7,Y++[e],false,by omega,rfl,rfl,kp ⟨(fun h=>by cases h),fun _=>⟨by rw[HE1.o.1,← HY1.o],HE1.o.2⟩⟩,kp ⟨HO.o,HP.o,HB.o,HZL.o⟩⟩
    case rest =>
     obtain⟨m2,A5,c5,Y2,dn2,hm2,rfl,rfl,hY2,hI2⟩:=hcut;clear HO HP HB HZL HY;go_wp2_with fail;go_roundw
     case rel=>exact⟨k+1,m2,A5,c5,Y2,dn2,by omega,by omega,by go_num,rfl,rfl,hY2,hI2⟩
     case measure=>simp [intOf];omega
   ·obtain rfl:k=n:=by omega
    have HT:=kq (l.take k=l) (List.take_of_length_le (by omega));cases dn with
    | true =>
     obtain⟨hy1,hy2⟩:=HY.o.1 rfl;have HY1:=kq (Y=insK p v l) (by rw[hy1,HT.o]);clear hy1 hy2 HY;go_wp2_with fail;refine ret_t_t rfl rfl rfl rfl ?_;rw[HRS1.o];exact⟨A4,m,c4,rfl,by rw[← HY1.o];exact HO.o.row,HB.o⟩
    | false =>
     obtain⟨hy1,hy2⟩:=HY.o.2 rfl;have HY1:=kq (Y=l) (by rw[hy1,HT.o]);have HY2:=kq (insK p v l=l++[(p,v)]) (insK_end v (by have:=hy2;rw[HT.o]at this;exact this));clear hy1 hy2 HY;go_wp2_with (with_reducible first|refine wlb 88 row_atk HP.o.blk HP.o.len ?_|refine wpl_row1 (o:=⟨some 89,.buildSlice _ _ _,_,_,_,_⟩) rfl rfl el_at21 rfl HYC.o.len (by decide) ?_);intro v_ hr_ y_ hs3_;have HROW:=kp (hr_.sl (sz:=98) (n:=1) (by rw[HYC.o.len]));replace HP:=kp (HP.o.grow y_);replace HO:=kp (HO.o.grow y_);replace HB:=kp (HB.o.grow' y_);replace HZL:=kp (Nat.le_trans HZL.o y_.size);generalize w_.heap.size=q6 at HROW ⊢;clear hr_ y_ hs3_;try clear w_
     rename World=>w_;have HNE:=kq (∀b,b < z0→some b≠A4.map Addr.block) (fun b hb e=>by have:=own_from HO.o.1 b e.symm;omega);go_wp2_with (first|(at_builtin;refine wpl_apps rfl rfl el_at21 HO.o.1 rfl HROW.o rfl HYC.o.one (by omega) (by omega) HZL.o ?_));intro A7 c7 v_ ho_ x_ hA_;replace HP:=kp (at_mk (HP.o.blk.grown x_ (HNE.o _ HP_z.o)) HP.o.len);replace HB:=kq (Below w.heap.size w v_) (HB.o.grown x_ HB.o.size (fun q hq=>Nat.le_trans HZ0.o (own_from HO.o.1 q hq)));replace HZL:=kp (Nat.le_trans HZL.o x_.size);replace HO:=kq (OwnK v_ z0 A7 (m+1) c7 (Y++[(p,v)])) (OwnK.snoc (by rw[← HYE.o];exact ho_) HO.o.2 ⟨HP0.o,HV0.o⟩);clear ho_ x_ hA_ HNE HROW;try clear w_
     rename World=>w_;go_wp2_with fail;refine ret_t_t rfl rfl rfl rfl ?_;rw[HRS1.o];exact⟨A7,m+1,c7,rfl,by rw[HY2.o,← HY1.o];exact HO.o.row,HB.o⟩
open Go.RowKit Go.Sort
theorem zero_ptz:(Tryz.prog.info? 69).map (·.zero)=some (some (.agg (encPt default).toArray)):=by kernel_rfl
theorem delf_any (Z : Nat) (w0 : World) (hZ : Z ≤ w0.heap.size) (Bl Bi : Nat) (dl : PtS → Bool) (HD : ∀ w', Below Z w0 w' → ∀ x : PtS, Calls Tryz.prog 58 #[ptA x.1, .pointer (some ⟨Bl, 0, none⟩), .pointer (some ⟨Bi, 0, none⟩)] w' fun e w'' => e = .returned (.bool (dl x)) ∧ Below w'.heap.size w' w'')
  {A:Option Addr} {n c:Nat} {ks:List PtS} (w:World) (hB:Below Z w0 w) (h:OwnP w Z A n c ks) (hn:n≤1000000) :
  Calls Tryz.prog 56 #[.slice A n c,ofV Bl Bi] w fun e w'=>∃m,e=.returned (.slice A m c)∧OwnP w' Z A m c (ks.filter fun x=>!dl x)∧Below Z w0 w':=by
 have HO:=kp h;have HL:=kp h.len;have HB0:=kp hB;have HDD:=kp HD;have HZZ:=kp (Nat.le_trans hZ hB.size);have HIX:=kp (ix_any Z w0 hZ Bl Bi dl HD w hB h hn);have HZL:=kp (encPt_len default);unfold ofV at HIX ⊢;clear h HD hB
 go_enter Tryz.func56,Tryz.ntmps56
 go_wp2_with fail;refine HIX.o.mono ?_;rintro e w1 ⟨r,rfl,hr,hb1⟩;have HB1:=kp (HB0.o.trans (hb1.mono HZZ.o));have HO1:=kp (HO.o.call hb1);clear hb1 HIX HB0 HO;rcases hr with ⟨rfl,hall⟩|⟨i0,x0,rfl,hx0,hd0,hpre⟩
 ·have HF:=kq (ks.filter (fun x=>!dl x)=ks) (List.filter_eq_self.2 fun x hx=>by rw[hall x hx];rfl);clear hall;go_wp2_with fail;go_ret
  exact⟨n,rfl,by rw[HF.o];exact HO1.o,HB1.o⟩
 ·have hi0:i0 < n:=by have:=(List.getElem?_eq_some_iff.1 hx0).1;have:=HL.o;omega
  obtain⟨g,cur0,rfl,hg1,hg2,hnc,hcm,-⟩:=HO1.o.form (by omega)
  have HS0:=kp (show ks.take i0=(ks.take (i0+1)).filter fun x=>!dl x by
   rw[List.take_add_one,hx0,List.filter_append,show(some x0).toList.filter (fun x=>!dl x)=[] from by simp [hd0],List.append_nil]
   exact(List.filter_eq_self.2 fun x hx=>by rw[hpre x hx];rfl).symm)
  have hc63:c≤9223372036854775807:=by unfold maxLen at hcm;omega
  have q0:((i0:Int) == -1)=false:=beq_eq_false_iff_ne.2 (by omega);have HGZ:=kp hg1;clear hx0 hd0 hpre hg1 hcm hg2;go_wp2_with fail;go_loopw [5,6] (fun s5 iv wr=>∃i j:Nat,i < j∧j≤n∧s5=.int .i64 i∧iv=.int .i64 j∧Hid (∃ys,OwnP wr Z (some ⟨g,0,none⟩) n c ys∧ys.take i=(ks.take j).filter (fun x=>!dl x)∧ys.drop j=ks.drop j∧Below Z w0 wr∧g < wr.heap.size)) (fun _ iv _=>n - (intOf iv).toNat)
  case atStart=>exact⟨i0,i0+1,by omega,by omega,rfl,by go_num,kp ⟨ks,HO1.o,HS0.o,rfl,HB1.o,by obtain⟨g',_,hA,_,hlt,_⟩:=HO1.o.form (by omega);injection hA with hA;injection hA with hA;subst hA;exact hlt⟩⟩
  case round =>
   obtain⟨i,j,hij,hj,rfl,rfl,hI⟩:=hrel;clear HB1 HO1 HS0;obtain⟨ys,hO,hT,hD,hB,hG⟩:=hI.o;have HO:=kp hO;have HT:=kp hT;have HD:=kp hD;have HB:=kp hB;have HG:=kp hG;clear hI hO hT hD hB hG;by_cases hlt:j < n
   ·have hyl:=HO.o.len;have hkk:ks[j]? = some (ks[j]'(by have:=HL.o;omega)):=List.getElem?_eq_getElem _;obtain⟨x,hx⟩:∃x,x=ks[j]'(by have:=HL.o;omega):=⟨_,rfl⟩;rw[← hx]at hkk
    have hyk:ys[j]? = some x:=by
     have h1:(ys.drop j)[0]? =(ks.drop j)[0]?:=by rw[HD.o]
     rw[List.getElem?_drop,List.getElem?_drop,Nat.add_zero]at h1;rw[h1];exact hkk
    have HKK:=kp hkk;have HCE:=kp (HO.o.at_ hyk);have HXL:=kp (encPt_len x);have HX1:=kp (encPt_one x);have HYL:=kp hyl;obtain⟨xs,hxs⟩:=xe (encPt x);have HXE:=kp hxs;rw[← hxs]at HCE HXL HX1;clear hkk hx hyk hxs hyl;go_wp2_with (with_reducible first|refine wlm 25 row_point HCE.o HXL.o ?_|refine wpl_alloc (o:=⟨some 7,_,_,_,_,_⟩) rfl rfl zero_ptz ?_);intro w2 hb2 hbw2 hsz2;have HV2:=kp hb2;have HO2:=kp (HO.o.call hbw2);have HB2:=kp (HB.o.trans (hbw2.mono (Nat.le_trans hZ HB.o.size)));have HGN:=kq (g≠wr.heap.size∧Z≤wr.heap.size) ⟨by have:=HG.o;omega,Nat.le_trans hZ HB.o.size⟩;have HG2:=kq (g < w2.heap.size) (by have:=HG.o;omega);clear hb2 hbw2 hsz2 HO HB HG HCE;obtain⟨gv,hgv⟩:=xe wr.heap.size;rw[← hgv]at HV2 HGN ⊢;clear hgv;go_wp2_with (with_reducible refine wsb row_point HV2.o HZL.o HXL.o HX1.o ?_);intro w3 hb3 hg3 hs3;have HV3:=kp hb3
    have HO3:=kp (own_of_block HO2.o (w':=w3) fun q hq=>by
     have:q=g:=by simpa using hq.symm
     subst this
     exact hg3.block q HG2.o (by have:=HGN.o.1;simpa using this))
    have HB3:=kp (HB2.o.grown hg3 (Nat.le_trans hZ HB2.o.size) (fun q hq=>by cases hq;exact HGN.o.2));have HG3:=kq (g < w3.heap.size) (by rw[hs3];exact HG2.o);clear hb3 hg3 hs3 HV2 HO2 HB2 HG2;have HCL:=kp (HDD.o w3 HB3.o x);rw[show ptA x.1=.agg (encPt x).toArray from rfl,← HXE.o]at HCL;obtain⟨r,hr⟩:=xe (dl x);rw[← hr]at HCL;have HRX:=kp hr;clear hr;go_wp2_with (with_reducible refine wlb 27 row_point HV3.o HXL.o ?_);refine HCL.o.mono ?_;rintro e w4 ⟨rfl,hb4⟩;have HV4:=kp (HV3.o.call hb4);have HO4:=kp (OwnP.call HO3.o hb4);have HB4:=kp (HB3.o.trans (hb4.mono (Nat.le_trans hZ HB3.o.size)));have HG4:=kp (Nat.lt_of_lt_of_le HG3.o hb4.size);clear hb4 HV3 HO3 HB3 HG3 HCL
    have HDN:=kp (show ys.drop (j+1)=ks.drop (j+1) by
     have h1:=congrArg (List.drop 1) HD.o
     rw[List.drop_drop,List.drop_drop]at h1;exact h1)
    cases r with
    | true =>
     have HTN:=kp (show ys.take i=(ks.take (j+1)).filter (fun x=>!dl x) by
      rw[List.take_add_one,HKK.o,List.filter_append,show(some x).toList.filter (fun x=>!dl x)=[] from by simp [← HRX.o],List.append_nil];exact HT.o)
     go_wp2_with fail;go_roundw
     case rel=>exact⟨i,j+1,by omega,by omega,rfl,by go_num,kp ⟨ys,HO4.o,HTN.o,HDN.o,HB4.o,HG4.o⟩⟩
     case measure=>simp [intOf];omega
    | false =>
     have HTN:=kp (show(ys.set i x).take (i+1)=(ks.take (j+1)).filter (fun x=>!dl x) by
      have hl:=HYL.o
      rw[List.take_add_one (l:=ks),HKK.o,List.filter_append,show(some x).toList.filter (fun x=>!dl x)=[x] from by simp [← HRX.o],List.take_add_one,List.getElem?_set_self (by omega),List.take_set_of_le (Nat.le_refl _),HT.o];rfl)
     have HDS:=kq ((ys.set i x).drop (j+1)=ks.drop (j+1)) (by rw[List.drop_set,if_pos (by omega)];exact HDN.o);obtain⟨g',cur,hA,hZg,_,_,_,hblk,hcl,_⟩:=HO4.o.form (by omega);injection hA with hA;injection hA with hA;subst hA
     have HBK:=kp hblk;have HCL2:=kq (i*33+33≤cur.length) (by rw[hcl];omega);have hin:i < n:=by omega
     clear hblk hcl;go_wp2_with (with_reducible first|refine wlb 32 row_point HV4.o HXL.o ?_|refine wpl_storep (o:=⟨none,.store _ _ _,_,_,_,_⟩) rfl rfl row_point HBK.o rfl rfl HXL.o HCL2.o HX1.o ?_);intro w5 hb5 hg5 hs5;rw[HXE.o]at hb5;have HO5:=kp (HO4.o.set_ hin HBK.o x hb5);have HB5:=kp (HB4.o.grown hg5 (Nat.le_trans hZ HB4.o.size) (fun q hq=>by cases hq;exact hZg));have HG5:=kq (g < w5.heap.size) (by rw[hs5];exact HG4.o);clear hb5 hg5 hs5;go_wp2_with fail;go_roundw
     case rel=>exact⟨i+1,j+1,by omega,by omega,by go_num,by go_num,kp ⟨ys.set i x,HO5.o,HTN.o,HDS.o,HB5.o,HG5.o⟩⟩
     case measure=>simp [intOf];omega
   ·obtain rfl:j=n:=by omega
    have HFL:=kp (show ys.take i=ks.filter (fun x=>!dl x) by
     have h1:=HT.o
     rw[List.take_of_length_le (l:=ks) (i:=j) (by have:=HL.o;omega)]at h1;exact h1)
    have HTK:=kp (own_take (i:=i) HO.o (by omega));obtain⟨g',cur,hA,hZg,_,hjc,_,_,_,_⟩:=HO.o.form (by omega);injection hA with hA;injection hA with hA;subst hA
    obtain⟨w5,hr5,ho5,hg5,hs5⟩:=run_clear_own (ty:=0) (m:=j - i) (c2:=c - i) el_pt zero_ptz (encPt_one default) HTK.o (by omega);have HO5:=kq (OwnP w5 Z (some ⟨g,0,none⟩) i c (ks.filter fun x=>!dl x)) (by rw[pf_take,HFL.o]at ho5;exact ho5);have HB5:=kp (HB.o.grown hg5 (Nat.le_trans hZ HB.o.size) (fun q hq=>by cases hq;exact hZg));have HR5:=kp hr5;have q1:i≤j:=by omega
    have q2:(i:Int)≤(j:Int):=by omega
    have q3:i≤c:=by omega
    have q4:(i:Int)≤(c:Int):=by omega
    have q5:¬ ((i:Int)=(c:Int)):=by omega
    have q6:((i:Int) ==(c:Int))=false:=beq_eq_false_iff_ne.2 q5;have q7:¬ (c=i):=by omega
    clear ho5 hg5 hs5 hr5;go_wp2_with (first|(refine wpl_clear_run (o:=⟨none,.call _,_,_,_,_⟩) rfl rfl (by first|rfl|(go_simp;done)) HR5.o ?_));go_ret
    exact⟨i,rfl,HO5.o,HB5.o⟩
theorem lookL_mem{L:LocksL}{e:PtK×LockV}(h:e∈L)(hd:(L.map (·.1)).Nodup):lookL L e.1=some e.2:=by
 unfold lookL
 induction L with
 | nil=>cases h
 | cons x L ih =>
  rw[List.map_cons,List.nodup_cons]at hd;by_cases hx:(x.1 == e.1)=true
  ·rw[List.find?_cons_of_pos (by exact hx)];rcases List.mem_cons.1 h with rfl|h2
   ·rfl
   ·exact absurd (List.mem_map_of_mem (f:=fun x:PtK×LockV=>x.1) h2) (by show e.1∉_;rw[← eq_of_beq hx];exact hd.1)
  ·rw[List.find?_cons_of_neg (by simpa using hx)];rcases List.mem_cons.1 h with rfl|h2
   ·simp at hx
   ·exact ih h2 hd.2
def heldFor(L:LocksL)(id:List UInt8)(p:PtK):Bool:=decide (((lookL L p).getD noLock).2=id)
theorem held_perm {L : LocksL} {ks : List PtS} {id : List UInt8} (hp : (ks.map (·.1)).Perm (L.map (·.1))) (hd : (L.map (·.1)).Nodup) :
  ((ks.filter fun x=>heldFor L id x.1).map (·.1)).Perm ((L.filter fun e=>decide (e.2.2=id)).map (·.1)):=by
 have e1:(ks.filter fun x=>heldFor L id x.1).map (·.1)=(ks.map (·.1)).filter (heldFor L id):=by rw[List.filter_map];rfl
 have e2:(L.filter fun e=>decide (e.2.2=id)).map (·.1)=(L.map (·.1)).filter (heldFor L id):=by
  rw[List.filter_map]
  congr 1
  refine List.filter_congr fun e he=>?_
  show _=decide (((lookL L e.1).getD noLock).2=id)
  rw[lookL_mem he hd];rfl
 rw[e1,e2];exact hp.filter _
theorem kof_any (g b : Nat) (L : LocksL) (s : Int) (id : List UInt8) (w : World) (h : LocksAt w g b L s) (hi : id.length = 32) (hn : L.length ≤ 1000000) :
  Calls Tryz.prog 25 #[.pointer (some ⟨g,0,none⟩),.agg (id.map B).toArray] w fun e w'=>∃A n c ss,∃ks:List PtS,e=.returned (.slice A n c)∧OwnP w' w.heap.size A n c ks∧ks=(sortP ss).filter (fun x=>heldFor L id x.1)∧((sortP ss).map (·.1)).Perm (L.map (·.1))∧(ks.map (·.1)).Perm ((L.filter fun e=>decide (e.2.2=id)).map (·.1))∧Below w.heap.size w w':=by
 have HH:=kp h;have HI:=kp hi;have HN:=kp hn;have HIL:=kq ((id.map B).length=32) (by rw[List.length_map,hi]);obtain⟨is,his⟩:=xe (id.map B);have HIE:=kp his;rw[← his]at HIL ⊢;obtain⟨z,hz⟩:=xe w.heap.size;have hg:g < z:=by rw[hz];exact h.ltg
 have hb:b < z:=by rw[hz];exact h.ltb
 have HZ:=kp hz;rw[← hz];clear h hi hn his hz
 go_enter Tryz.func25,Tryz.ntmps25
 go_wp2_with (with_reducible first|refine wpl_box (o:=⟨some 3,_,_,_,_,_⟩) rfl rfl rfl ?_);intro w2 hb2 hbw2 hsz2;have HC2:=kq ((w.alloc (.cells #[.pointer (some ⟨g,0,none⟩)] 31)).cell? ⟨z,0,none⟩=some (.pointer (some ⟨g,0,none⟩))) (by rw[HZ.o];unfold World.cell?;rw[heap_alloc_new];rfl);have HBA:=kq (Below z w (w.alloc (.cells #[.pointer (some ⟨g,0,none⟩)] 31))) (by rw[HZ.o];exact(Below.refl _ w).alloc (Nat.le_refl _) _);have HSA:=kq ((w.alloc (.cells #[.pointer (some ⟨g,0,none⟩)] 31)).heap.size=z+1) (by rw[HZ.o];simp);generalize w.alloc (.cells #[.pointer (some ⟨g,0,none⟩)] 31)=wa at *;rw[← HZ.o]at hb2 hbw2 hsz2 ⊢;have HL2:=kp ((HH.o.below HBA.o hg hb).below hbw2 (by omega) (by omega));have HBL2:=kp ((hbw2.cell (p:=⟨z,0,none⟩) (show z < z+1 by omega)).trans HC2.o);have HBI2:=kp hb2;have HB2:=kp (HBA.o.trans (hbw2.mono (by omega)));have HS2:=kq (w2.heap.size=z+2) (by omega);clear hb2 hbw2 hsz2 HC2 HBA HSA;try clear wa
 have c1:=HBL2.o;have HZZ:=kp HZ.o;go_wp2_with fail;refine(kall_any g b L s w2 HL2.o HN.o).mono ?_;rintro e w3 ⟨v,ks0,rfl,hp,⟨ss,hss⟩,hrow,hb3⟩;have HB3:=kp (HB2.o.trans (hb3.mono (by have:=HS2.o;omega)))
 obtain⟨A,n,c,rfl,hnk⟩:∃A n c,v=.slice A n c∧n=ks0.length:=by
  rcases hrow.2 with ⟨rfl,h0⟩|⟨gb,cap,cur,rfl,_⟩
  ·exact⟨none,0,0,rfl,h0.symm⟩
  ·exact⟨_,_,_,rfl,rfl⟩
 rw[← hnk]at hrow;have HO3:=kq (OwnP w3 w2.heap.size A n c ks0) hrow;have HNK:=kq (n≤1000000) (by have h1:=hp.length_eq;rw[List.length_map,List.length_map]at h1;have:=HN.o;omega)
 have HD:=kp (show ∀w',Below w2.heap.size w2 w'→∀x:PtS,Calls Tryz.prog 58 #[ptA x.1,.pointer (some ⟨z,0,none⟩),.pointer (some ⟨z+1,0,none⟩)] w' fun e w''=>e=.returned (.bool ((fun x:PtS=>!heldFor L id x.1) x))∧Below w'.heap.size w' w'' from fun w' hb' x =>
  of1_any g b L s x.1 id z (z+1) w' (HL2.o.call hb') x.2 HI.o (bcell hb' HBL2.o) (by rw[← HIE.o];exact HBI2.o.call hb'))
 have HDE:=kp (delf_any w2.heap.size w2 (Nat.le_refl _) z (z+1) (fun x=>!heldFor L id x.1) HD.o w3 hb3 HO3.o HNK.o);have HPP:=kp hp;have HSS:=kp hss;have HB23:=kp hb3;clear hp hss hrow hb3 hnk c1 HD HNK;unfold ofV at HDE;go_wp2_with fail;refine HDE.o.mono ?_;rintro e w4 ⟨m,rfl,ho4,hb4⟩;have HO4:=kp ho4;have HB4:=kp (HB2.o.trans (hb4.mono (by have:=HS2.o;omega)));clear ho4 hb4 HDE;go_wp2_with fail;go_ret
 have hf:ks0.filter (fun x=>!(!heldFor L id x.1))=ks0.filter (fun x=>heldFor L id x.1):=by simp
 have ho:=HO4.o;rw[hf]at ho;refine⟨A,m,c,ss,_,rfl,?_,by rw[HSS.o],by rw[← HSS.o];exact HPP.o,held_perm HPP.o HL2.o.ok.2,HB4.o⟩;have:=ho;exact⟨this.1,this.2.imp (fun h=>h) (fun⟨a,b',c',h1,h2,h3⟩=>⟨a,b',c',h1,Nat.le_trans (by have:=HS2.o;omega) h2,h3⟩)⟩
open Go.RowKit Go.Maps Go.Sort Go.Shelf
def RowPt(w:World)(A:Option Addr)(n:Nat)(l:List PtK):Prop:=Sl w w.heap.size 33 A n (l.flatMap ptV)∧(∀p∈l,PtOK p)∧l.length=n
theorem RowPt.grow{w w':World}{A:Option Addr}{n:Nat}{l:List PtK}(h:RowPt w A n l)(hb:Below w.heap.size w w'):RowPt w' A n l:=⟨(h.1.below hb).more hb.size,h.2⟩
theorem RowPt.at_ {w : World} {A : Option Addr} {n : Nat} {l : List PtK} (h : RowPt w A n l) {k : Nat} (hk : k < n) :
  ∃b off p,A=some ⟨b,off,none⟩∧b < w.heap.size∧l[k]? = some p∧PtOK p∧∀j u,(ptV p)[j]? = some u→w.cell? ⟨b,off+k*33+j,none⟩=some u:=by
 obtain⟨hs,ho,hl⟩:=h;obtain⟨b,off,e,hb,hc⟩:=hs.2 (by omega);have hk2:k < l.length:=by omega
 refine⟨b,off,l[k],e,hb,List.getElem?_eq_getElem hk2,ho _ (List.getElem_mem hk2),fun j u hu=>?_⟩;have h2:=hc (k*33+j) u (fm_at3 ptV 33 l k j _ u (fun y hy=>ptV_length (ho y hy).1) (List.getElem?_eq_getElem hk2) hu);rw[← Nat.add_assoc]at h2;exact h2
theorem fmPt(ks:List PtS):(ks.map (·.1)).flatMap ptV=ks.flatMap encPt:=by rw[List.flatMap_map];rfl
theorem OwnP.rowPt{w:World}{base n c:Nat}{A:Option Addr}{ys:List PtS}(h:OwnP w base A n c ys):RowPt w A n (ys.map (·.1)):=
 ⟨by rw[fmPt];exact Sl.of_own h,fun p hp=>by obtain⟨x,_,rfl⟩:=List.mem_map.1 hp;exact x.2,by rw[List.length_map];exact h.len⟩
def ofK(X:LocksL)(id:List UInt8):List PtK:=(X.filter fun e=>decide (e.2.2=id)).map (·.1)
theorem RelK.of_eq{X L:LocksL}{s:Int}(h:RelK X L s){ks ss:List PtS}{id:List UInt8}(hk:ks=(sortP ss).filter (fun x=>heldFor L id x.1))(hp:((sortP ss).map (·.1)).Perm (L.map (·.1))):ks.map (·.1)=ofK X id:=by
 have h1:=h.all hp rfl;have e1:ks.map (·.1)=((sortP ss).map (·.1)).filter (heldFor L id):=by rw[hk,List.filter_map];rfl
 rw[e1,h1];unfold ofK;rw[List.filter_map]
 congr 1
 refine List.filter_congr fun e he=>?_
 show heldFor L id e.1=decide (e.2.2=id)
 unfold heldFor;rw[lookL_mem (h.perm.mem_iff.1 he) h.ok.2];rfl
theorem aidV_cl{d:List UInt8}(h:d.length=32):Cl 32 (d.map B):=⟨by rw[List.length_map,h],mapB_one d⟩
theorem encAtK_for0{e:PtK×LockV}(h:AtOKK e){j:Nat}{u:Value}(hu:(e.2.2.map B)[j]? = some u):(encAtK e)[33+j]? = some u:=
 encAtK_ref h (by unfold refV;rw[List.getElem?_append_left (List.getElem?_eq_some_iff.1 hu).1];exact hu)
end Go.Proofs.YtnnjjbkdjkjnpaaGreatDoor

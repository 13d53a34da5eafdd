/- The contracts of seisinref08.Places,Spread and seisinref22.Here. -/
import Derived.Test.YtnnjjbkdjkjnpaaGreatDoorSpendPlaysRb31
set_option linter.unusedSimpArgs false
set_option linter.unusedVariables false
set_option maxRecDepth 100000
set_option maxHeartbeats 16000000
namespace Go.Proofs.YtnnjjbkdjkjnpaaGreatDoor
open Go.RowKit Go.Shelf
theorem rplaces_any {A : Option Addr} {c : Nat} {l : List Int} (v : Int) (w : World) (h : IntsAt w A l) (hn : l.length ≤ 1000000) :
  Calls Tryz.prog 94 #[.slice A l.length c,.int .i64 v] w fun e w'=>∃A' c',e=.returned (.slice A' (placesI l v).length c')∧OwnZ w' w.heap.size A' (placesI l v).length c' ((placesI l v).map Int.ofNat)∧Grow w w':=by
 have HH:=kp h;obtain⟨n,hln⟩:=xe l.length;have HLN:=kp hln;rw[← hln]at hn ⊢;obtain⟨w_,hw⟩:=xe w;have HB:=kq (Below w.heap.size w w_) (by rw[hw];exact Below.refl _ _)
 suffices H:Calls Tryz.prog 94 #[.slice A n c,.int .i64 v] w_ (fun e w'=>∃A' c',e=.returned (.slice A' (placesI l v).length c')∧OwnZ w' w.heap.size A' (placesI l v).length c' ((placesI l v).map Int.ofNat)∧Grow w w') by rw[hw]at H;exact H
 obtain⟨rs,hrs⟩:=xe (placesI l v);have HRS:=kp hrs;rw[← hrs];clear hw h hln hrs
 go_enter Tryz.func94,Tryz.ntmps94
 go_wp2_with fail;go_loopw [5,6] (fun s4 iv wr=>∃(k:Nat) (A4:Option Addr) (c4 m:Nat),k≤n∧m≤k∧iv=.int .i64 k∧s4=.slice A4 m c4∧Hid (OwnZ wr w.heap.size A4 m c4 ((placesI (l.take k) v).map Int.ofNat)∧(placesI (l.take k) v).length=m∧Below w.heap.size w wr)) (fun _ iv _=>n - (intOf iv).toNat)
 case atStart=>exact⟨0,none,0,0,by omega,by omega,rfl,rfl,kp ⟨World.ownsRow_nil _ _ _ _,rfl,HB.o⟩⟩
 case round =>
  obtain⟨k,A4,c4,m,hk,hm,rfl,rfl,hI⟩:=hrel;clear HB;have HO:=kp hI.o.1;have HPL:=kp hI.o.2.1;have HB:=kp hI.o.2.2;clear hI;rename World=>w_;by_cases hlt:k < n
  ·obtain⟨b,off,x,rfl,hb,hx,hc⟩:=(HH.o.grow HB.o).at_ (k:=k) (by rw[← HLN.o];exact hlt)
   have HSN:=kp (show placesI (l.take (k+1)) v=placesI (l.take k) v++(if x=v then [k] else []) by
    rw[take_snoc hx,placesI_snoc,List.length_take,Nat.min_eq_left (by rw[← HLN.o];omega)])
   clear hb hx;by_cases hxv:x=v
   ·have HSN2:=kq ((placesI (l.take (k+1)) v).map Int.ofNat=(placesI (l.take k) v).map Int.ofNat++[(k:Int)]) (by rw[HSN.o,if_pos hxv,List.map_append];rfl);have HSL:=kq ((placesI (l.take (k+1)) v).length=m+1) (by rw[HSN.o,if_pos hxv,List.length_append,HPL.o];rfl);obtain⟨Y,hY⟩:=xe ((placesI (l.take k) v).map Int.ofNat);rw[← hY]at HO HSN2;clear hY HSN HPL;subst hxv;have HO3:=kq (w_.ownsRow w.heap.size 3 1 (.slice A4 m c4) m (Y.map (Value.int .i64))) HO.o;have z1:(x == x)=true:=by simp
    go_wp2_with (first|(at_builtin;refine wpl_app1 rfl rfl el_int HO3.o rfl (m:=1) rfl ?_ ?_ ?_ ?_ ?_ ?_))
    ·rfl
    ·rfl
    ·omega
    ·omega
    ·exact HB.o.size
    intro A7 c7 w4_ ho_ x_ hA_;have HB_:=kp (below_grown HB.o x_ HB.o.size (own_from HO3.o));have HO_:=kq (OwnZ w4_ w.heap.size A7 (m+1) c7 (Y++[(k:Int)])) (OwnZ.snoc ho_);clear ho_ x_ hA_ HO HO3 HB;go_wp2_with fail;go_roundw
    case rel=>exact⟨k+1,A7,c7,m+1,by omega,by omega,by go_num,rfl,kp ⟨by rw[HSN2.o];exact HO_.o,HSL.o,HB_.o⟩⟩
    case measure=>simp [intOf];omega
   ·have HSN2:=kq (placesI (l.take (k+1)) v=placesI (l.take k) v) (by rw[HSN.o,if_neg hxv,List.append_nil]);have z1:(x == v)=false:=by simpa using hxv
    clear HSN;go_wp2_with fail;go_roundw
    case rel=>exact⟨k+1,A4,c4,m,by omega,by omega,by go_num,rfl,kp ⟨by rw[HSN2.o];exact HO.o,by rw[HSN2.o];exact HPL.o,HB.o⟩⟩
    case measure=>simp [intOf];omega
  ·obtain rfl:k=n:=by omega
   have HE:=kq (placesI (l.take k) v=rs) (by rw[HRS.o,List.take_of_length_le (by rw[← HLN.o];exact Nat.le_refl _)]);go_wp2_with fail;go_ret
   rw[HE.o]at HO HPL;exact⟨A4,c4,by rw[HPL.o];rfl,by rw[HPL.o];exact HO.o,HB.o⟩
def shrX(t:Txn)(n:Int)(outs:Bool):List Int:=if outs then shrO t n else shrI t n
theorem shrX_len(t:Txn)(n:Int)(outs:Bool):(shrX t n outs).length≤16:=by unfold shrX;cases outs;exact shrI_len t n;exact shrO_len t n
theorem rspread_any {tv : List Value} {t : Txn} (n : Int) (outs : Bool) (w : World) (h : TxAt w tv t) :
  Calls Tryz.prog 95 #[.agg tv.toArray,.int .i64 n,.bool outs] w fun e w'=>∃A3 c3,e=.returned (.slice A3 (shrX t n outs).length c3)∧IntsAt w' A3 (shrX t n outs)∧Grow w w':=by
 have HTC:=kp h.cl;have HCK:=kp (fun w' (k:Grow w w')=>(h.grow k).rcheck);have HID:=kp (fun hck w' (k:Grow w w')=>(h.grow k).rid hck (tid_dig t));obtain⟨A,c,l,hv0,hi,hl,hn⟩:=h.ins;obtain⟨A2,c2,hv1,ho,hn2⟩:=h.outs;have HI:=kp hi;have HO:=kp ho;have HL:=kp hl;have HV0:=kp hv0;have HV1:=kp hv1;obtain⟨w_,hw⟩:=xe w;have HB:=kq (Below w.heap.size w w_) (by rw[hw];exact Below.refl _ _)
 suffices H:Calls Tryz.prog 95 #[.agg tv.toArray,.int .i64 n,.bool outs] w_ (fun e w'=>∃A3 c3,e=.returned (.slice A3 (shrX t n outs).length c3)∧IntsAt w' A3 (shrX t n outs)∧Grow w w') by rw[hw]at H;exact H
 clear hw h hi ho hl hv0 hv1
 have HNO:=kp (fun(hs:¬ spT t n) w' (k:Grow w w')=>show ∃A3 c3,Ending.returned (.slice none 0 0)=.returned (.slice A3 (shrX t n outs).length c3)∧IntsAt w' A3 (shrX t n outs)∧Grow w w' by
  have e1:shrI t n=[]:=by unfold shrI;rw[if_neg hs]
  have e2:shrO t n=[]:=by unfold shrO;rw[if_neg hs]
  have e3:shrX t n outs=[]:=by unfold shrX;cases outs;exact e1;exact e2
  rw[e3]
  exact⟨none,0,rfl,IntsAt.nil _,k⟩)
 go_enter Tryz.func95,Tryz.ntmps95
 go_wp2_with (with_reducible first|refine wpl_box (o:=⟨some 3,_,_,_,_,_⟩) rfl rfl rfl ?_);intro v_ b_ y_ s_;have HX_:=kp (at_mk b_ HTC.o.len);clear b_ s_;have HG_:=kp HB.o.size;replace HB:=kp (HB.o.grow' y_);generalize x_:w_.heap.size=g1 at HX_ HG_ ⊢;clear x_;have HX_g:=HG_;clear HG_;have HX:=HX_;clear y_ HX_;try clear w_
 rename World=>w_;go_wp2_with (with_reducible refine wlb 11 row_tx HX.o.blk HX.o.len ?_);refine(HCK.o _ HB.o).mono ?_;rintro e w_ ⟨rfl,y_⟩;replace HB:=kp (HB.o.grow' y_);replace HX:=kp (HX.o.grow y_);clear y_;by_cases hs:spT t n
 case neg =>
  have HN:=kp (HNO.o hs _ HB.o);by_cases hc0:checkT t=0
  ·rw[hc0];have z1:((0:Int) != 0)=false:=by decide
   by_cases h1:n < 1
   ·go_wp2_with fail;go_ret
    exact HN.o
   ·have h2:64 < n:=by unfold spT at hs;omega
    go_wp2_with fail;go_ret
    exact HN.o
  ·have z1:(checkT t != 0)=true:=by simpa using hc0
   go_wp2_with fail;go_ret
   exact HN.o
 case pos =>
  have HSI:=kq (shrI t n=t.ins.map (fun i=>shd i.pt n)) (by unfold shrI;rw[if_pos hs]);have HSO:=kq (shrO t n=(List.range t.outs.length).map (fun k:Nat=>shd (tidB t,(k:Int)) n)) (by unfold shrO;rw[if_pos hs]);rw[hs.1];have z1:((0:Int) != 0)=false:=by decide
  have h1:¬ (n < 1):=by have:=hs.2.1;omega
  have h2:¬ (64 < n):=by have:=hs.2.2;omega
  have HRT:=kp (right_of hs.1);have HTL:=kp (tid_len hs.1);have HS:=kp hs;have HID1:=kp (HID.o hs.1);clear hs HNO HID;cases outs with
  | false =>
   go_wp2_with fail;go_loopw [7,8] (fun s4 iv wr=>∃k:Nat,∃A3 c3,k≤t.ins.length∧iv=.int .i64 k∧s4=.slice A3 k c3∧Hid (OwnZ wr (g1+1) A3 k c3 ((t.ins.take k).map (fun i=>shd i.pt n))∧At wr g1 27 4 tv∧Below w.heap.size w wr)) (fun _ iv _=>t.ins.length - (intOf iv).toNat)
   case atStart=>exact⟨0,none,0,by omega,rfl,rfl,kp ⟨World.ownsRow_nil _ _ _ _,HX.o,HB.o⟩⟩
   case round =>
    obtain⟨k,A3,c3,hk,rfl,rfl,hI⟩:=hrel;clear HX HB;have HR:=kp hI.o.1;have HX:=kp hI.o.2.1;have HB:=kp hI.o.2.2;clear hI;rename World=>w_;have c0:=HX.o.blk.at_ HV0.o;by_cases hlt:k < t.ins.length
    ·have HII:=kp (HI.o.grow HB.o);obtain⟨b,off,p,rfl,hp,hok,hc⟩:=HII.o.at_ hlt;have hp2:t.ins[k]? = some p.2:=by rw[← HL.o,List.getElem?_map,hp];rfl
     have HPO:=kp (in_ok hok.2);have HMC:=kq (∀j u,(ptV p.2.pt)[j]? = some u→w_.cell? ⟨b,off+k*35+j,none⟩=some u) (fun j u hu=>hc j u (in_pt p.1 p.2 hu));have HSH:=kq (shOK p.2.pt n) ⟨HS.o.2.1,HS.o.2.2,(HRT.o.2.2.2 p.2 (List.mem_of_getElem? hp2)).2.1,(HRT.o.2.2.2 p.2 (List.mem_of_getElem? hp2)).2.2⟩;have HSN:=kq ((t.ins.take (k+1)).map (fun i=>shd i.pt n)=(t.ins.take k).map (fun i=>shd i.pt n)++[shd p.2.pt n]) (by rw[take_snoc hp2,List.map_append];rfl);have HMO:=kp (rof8_any p.2.pt n w_ HPO.o HSH.o);have HPV:=kp (ptV_cl HPO.o);unfold ptA at HMO;obtain⟨sx,hsx⟩:=xe (shd p.2.pt n);obtain⟨es,hes⟩:=xe (ptV p.2.pt);obtain⟨Y,hY⟩:=xe ((t.ins.take k).map (fun i=>shd i.pt n));rw[← hes]at HMC HMO HPV;rw[← hsx]at HMO HSN;rw[← hY]at HR HSN;clear hp hok hc HII hp2 hsx hes hY;go_wp2_with (with_reducible refine wlm 37 row_point HMC.o HPV.o.len ?_);refine HMO.o.mono ?_;clear HMO HMC c0;rintro e w_ ⟨rfl,y_⟩;replace HB:=kp (HB.o.grow' y_);replace HX:=kp (HX.o.grow y_);replace HR:=kp (HR.o.grow y_);clear y_;have HGZ:=kq (g1+1≤w_.heap.size) (by have:=HX.o.lt;omega);have HR3:=kq (w_.ownsRow (g1+1) 3 1 (.slice A3 k c3) k (Y.map (Value.int .i64))) HR.o;go_wp2_with (first|(at_builtin;refine wpl_app1 rfl rfl el_int HR3.o rfl (m:=1) rfl ?_ ?_ ?_ ?_ ?_ ?_))
     ·rfl
     ·rfl
     ·omega
     ·omega
     ·exact HGZ.o
     intro A4 c4 w4_ ho_ x_ hA_;have hne_:=own_from HR3.o;have HX_:=kq (At w4_ g1 27 4 tv) (at_mk (HX.o.blk.grown x_ (fun h=>by have:=hne_ _ h.symm;omega)) HX.o.len);have HB_:=kp (below_grown HB.o x_ HB.o.size (fun x hx=>by have:=hne_ _ hx;have:=HX_g.o;omega));have HR_:=kq (OwnZ w4_ (g1+1) A4 (k+1) c4 ((t.ins.take (k+1)).map (fun i=>shd i.pt n))) (by rw[HSN.o];exact OwnZ.snoc ho_);clear ho_ x_ hA_ hne_ HX HB HR HR3;go_wp2_with fail;go_roundw
     case rel=>exact⟨k+1,A4,c4,by omega,by go_num,rfl,kp ⟨HR_.o,HX_.o,HB_.o⟩⟩
     case measure=>simp [intOf];omega
    ·obtain rfl:k=t.ins.length:=by omega
     have HRN:=kq (OwnZ w_ (g1+1) A3 t.ins.length c3 (shrI t n)) (by have h:=HR.o;rw[List.take_of_length_le (Nat.le_refl _)]at h;rw[HSI.o];exact h);have HIL:=kq ((shrI t n).length=t.ins.length) (by rw[HSI.o,List.length_map]);go_wp2_with fail;go_ret
     exact⟨A3,c3,by show _=Ending.returned (.slice A3 (shrI t n).length c3);rw[HIL.o];rfl,OwnZ.ints HRN.o HIL.o,HB.o⟩
  | true =>
   have HZ:=kp (tid_dig t);have HZP:=kp (fun k:Nat=>show(tidB t).map B++[Value.int .i64 (k:Int)]=ptV (tidB t,(k:Int)) from rfl);have HMO:=kp (fun w' (k:Nat) (hk:k < t.outs.length)=>rof8_any (tidB t,(k:Int)) n w' ⟨HTL.o,by have:=HRT.o.2.1;simp [Lit.wf,IntKind.min,IntKind.max,IntKind.signed,IntKind.bits];omega⟩ ⟨HS.o.2.1,HS.o.2.2,by show(0:Int)≤(k:Int);omega,by have:=HRT.o.2.1;show(k:Int)≤15;omega⟩);unfold ptA at HMO;obtain⟨zs,hzs⟩:=xe ((tidB t).map B);rw[← hzs]at HZ HID1 HZP;clear hzs;go_wp2_with (with_reducible refine wlb 43 row_tx HX.o.blk HX.o.len ?_);refine(HID1.o _ HB.o).mono ?_;rintro e w_ ⟨rfl,y_⟩;replace HB:=kp (HB.o.grow' y_);replace HX:=kp (HX.o.grow y_);clear y_;go_wp2_with (with_reducible first|refine wpl_alloc (o:=⟨some 9,_,_,_,_,_⟩) rfl rfl zero_id ?_);intro w1_ hb1_ hbw1_ hsz1_;have HB1_:=kp (at_mk hb1_ len_id);have HBW1_:=kp hbw1_;have HZ1_:=kp hsz1_;clear hb1_ hbw1_ hsz1_;go_wp2_with (with_reducible refine wsb row_id HB1_.o.blk HB1_.o.len HZ.o.len HZ.o.one ?_);intro v_ b_ g_ s_;have y_:=var_grow HBW1_.o HZ1_.o g_;have HX_:=kp (at_mk b_ HZ.o.len);clear b_ g_ s_ HB1_ HBW1_ HZ1_;replace HB:=kp (HB.o.grow' y_);replace HX:=kp (HX.o.grow y_);generalize x_:w_.heap.size=gV at HX_ ⊢;clear x_;have HV:=HX_;clear y_ HX_;clear w1_;try clear w_
   rename World=>w_;obtain⟨z0,hz0⟩:=xe w_.heap.size;have HZ0:=kq (w.heap.size≤z0∧g1 < z0∧gV < z0) (by rw[hz0];exact⟨HB.o.size,HX.o.lt,HV.o.lt⟩);have HZL:=kq (z0≤w_.heap.size) (by rw[hz0];exact Nat.le_refl _);clear hz0;go_wp2_with fail;go_loopw [7,10] (fun s5 iv wr=>∃k:Nat,∃A4 c4,k≤t.outs.length∧iv=.int .i64 k∧s5=.slice A4 k c4∧Hid (OwnZ wr z0 A4 k c4 ((List.range k).map (fun j:Nat=>shd (tidB t,(j:Int)) n))∧At wr gV 46 32 zs∧At wr g1 27 4 tv∧Below w.heap.size w wr∧z0≤wr.heap.size)) (fun _ iv _=>t.outs.length - (intOf iv).toNat)
   case atStart=>exact⟨0,none,0,by omega,rfl,rfl,kp ⟨World.ownsRow_nil _ _ _ _,HV.o,HX.o,HB.o,HZL.o⟩⟩
   case round =>
    obtain⟨k,A4,c4,hk,rfl,rfl,hI⟩:=hrel;clear HX HB HV HZL;have HR:=kp hI.o.1;have HV:=kp hI.o.2.1;have HX:=kp hI.o.2.2.1;have HB:=kp hI.o.2.2.2.1;have HZL:=kp hI.o.2.2.2.2;clear hI;rename World=>w_;have c1:=HX.o.blk.at_ HV1.o;by_cases hlt:k < t.outs.length
    ·have BT:=kq (Tryz.prog.built 69 [(0,.agg zs.toArray),(1,.int .i64 (k:Int))]=some (ptV (tidB t,(k:Int))).toArray) (by rw[bt_pt8 HZ.o.len,HZP.o]);have HMK:=kp (fun w'=>HMO.o w' k hlt);have HSN:=kp (rangeI_snoc (fun j:Nat=>shd (tidB t,(j:Int)) n) k);obtain⟨sx,hsx⟩:=xe (shd (tidB t,(k:Int)) n);obtain⟨es,hes⟩:=xe (ptV (tidB t,(k:Int)));obtain⟨Y,hY⟩:=xe ((List.range k).map (fun j:Nat=>shd (tidB t,(j:Int)) n));rw[← hes]at BT HMK;simp only [← hsx]at HSN;rw[← hsx]at HMK;rw[← hY]at HR HSN;clear hsx hes hY;go_wp2_with (with_reducible first|refine wlb 53 row_id HV.o.blk HV.o.len ?_|refine wst 55 ?_);refine stop_go ?_;refine wpl_build rfl rfl BT.o ?_;clear c1;go_wp2_with fail;refine(HMK.o w_).mono ?_;rintro e v_ ⟨rfl,y_⟩;replace HV:=kp (HV.o.grow y_);replace HX:=kp (HX.o.grow y_);replace HR:=kp (HR.o.grow y_);replace HZL:=kp (Nat.le_trans HZL.o y_.size);replace HB:=kp (HB.o.grow' y_);clear y_;try clear w_
     rename World=>w_;have HR3:=kq (w_.ownsRow z0 3 1 (.slice A4 k c4) k (Y.map (Value.int .i64))) HR.o;go_wp2_with (first|(at_builtin;refine wpl_app1 rfl rfl el_int HR3.o rfl (m:=1) rfl ?_ ?_ ?_ ?_ ?_ ?_))
     ·rfl
     ·rfl
     ·omega
     ·omega
     ·exact HZL.o
     intro A6 c6 w4_ ho_ x_ hA_;have hne_:=own_from HR3.o;have HV_:=kq (At w4_ gV 46 32 zs) (at_mk (HV.o.blk.grown x_ (fun h=>by have:=hne_ _ h.symm;have:=HZ0.o;omega)) HV.o.len);have HX_:=kq (At w4_ g1 27 4 tv) (at_mk (HX.o.blk.grown x_ (fun h=>by have:=hne_ _ h.symm;have:=HZ0.o;omega)) HX.o.len);have HB_:=kp (below_grown HB.o x_ HB.o.size (fun x hx=>by have:=hne_ _ hx;have:=HZ0.o;omega));have HR_:=kq (OwnZ w4_ z0 A6 (k+1) c6 ((List.range (k+1)).map (fun j:Nat=>shd (tidB t,(j:Int)) n))) (by rw[HSN.o];exact OwnZ.snoc ho_);have HZL_:=kp (Nat.le_trans HZL.o x_.size);clear ho_ x_ hA_ hne_ HB HR HR3 HV HX HZL;go_wp2_with fail;go_roundw
     case rel=>exact⟨k+1,A6,c6,by omega,by go_num,rfl,kp ⟨HR_.o,HV_.o,HX_.o,HB_.o,HZL_.o⟩⟩
     case measure=>simp [intOf];omega
    ·obtain rfl:k=t.outs.length:=by omega
     have HRN:=kq (OwnZ w_ z0 A4 t.outs.length c4 (shrO t n)) (by rw[HSO.o];exact HR.o);have HOL:=kq ((shrO t n).length=t.outs.length) (by rw[HSO.o,List.length_map,List.length_range]);go_wp2_with fail;go_ret
     exact⟨A4,c4,by show _=Ending.returned (.slice A4 (shrO t n).length c4);rw[HOL.o];rfl,OwnZ.ints HRN.o HOL.o,HB.o⟩
def hereX(t:Txn)(n me:Int)(outs:Bool):List Nat:=placesI (shrX t n outs) me
theorem rhere_any {tv : List Value} {t : Txn} (n me : Int) (outs : Bool) (w : World) (h : TxAt w tv t) :
  Calls Tryz.prog 59 #[.agg tv.toArray,.int .i64 n,.int .i64 me,.bool outs] w fun e w'=>∃A3 c3,e=.returned (.slice A3 (hereX t n me outs).length c3)∧NatsAt w' w.heap.size A3 (hereX t n me outs)∧Grow w w':=by
 have HTC:=kp h.cl;have HSP:=kp (fun w' (k:Grow w w')=>rspread_any n outs w' (h.grow k));have HLI:=kp (shrX_len t n outs);have HEI:=kq (placesI (shrX t n outs) me=hereX t n me outs) rfl;obtain⟨li,hli⟩:=xe (shrX t n outs);obtain⟨ki,hki⟩:=xe (hereX t n me outs);rw[← hli]at HSP HLI HEI;rw[← hki]at HEI ⊢;obtain⟨w_,hw⟩:=xe w;have HB:=kq (Below w.heap.size w w_) (by rw[hw];exact Below.refl _ _)
 suffices H:Calls Tryz.prog 59 #[.agg tv.toArray,.int .i64 n,.int .i64 me,.bool outs] w_ (fun e w'=>∃A3 c3,e=.returned (.slice A3 ki.length c3)∧NatsAt w' w.heap.size A3 ki∧Grow w w') by rw[hw]at H;exact H
 clear hw h hli hki
 go_enter Tryz.func59,Tryz.ntmps59
 go_wp2_with (with_reducible first|refine wpl_box (o:=⟨some 4,_,_,_,_,_⟩) rfl rfl rfl ?_);intro v_ b_ y_ s_;have HX_:=kp (at_mk b_ HTC.o.len);clear b_ s_;have HG_:=kp HB.o.size;replace HB:=kp (HB.o.grow' y_);generalize x_:w_.heap.size=g1 at HX_ HG_ ⊢;clear x_;have HX_g:=HG_;clear HG_;have HX:=HX_;clear y_ HX_;try clear w_
 rename World=>w_;go_wp2_with (with_reducible refine wlb 9 row_tx HX.o.blk HX.o.len ?_);refine(HSP.o _ HB.o).mono ?_;rintro e v_ ⟨A3,c3,rfl,hi,y_⟩;have HI:=kp hi;replace HB:=kp (HB.o.grow' y_);clear hi y_ HX HSP;try clear w_
 rename World=>w_;go_wp2_with fail;refine(rplaces_any me _ HI.o (Nat.le_trans HLI.o (by omega))).mono ?_;rintro e v_ ⟨A5,c5,rfl,h5,y_⟩;rw[HEI.o]at h5 ⊢;have H5:=kp (h5.nats.less HB.o.size);replace HB:=kp (HB.o.grow' y_);clear h5 y_ HI;go_wp2_with fail;go_ret
 exact⟨A5,c5,rfl,H5.o,HB.o⟩
theorem row_coins8:RowT Tryz.prog 90 2:=⟨_,Tryz.underlying90,by kernel_rfl,by kernel_rfl⟩
theorem coins_cl(b:Nat)(s:Int):Cl 2 [Value.map (some b),.int .u64 s]:=⟨rfl,fun u hu=>by simp only [List.mem_cons,List.not_mem_nil,or_false]at hu;rcases hu with rfl|rfl <;> rfl⟩
theorem CoinsAt.moved{w w':World}{g g3 b3:Nat}{L:CoinsL}{s:Int}(h:CoinsAt w g3 b3 L s)(hb:Blk w' g 90 [.map (some b3),.int .u64 s])(hg:w.grownBy w' (some g))(hne:g≠b3):CoinsAt w' g b3 L s:=by
 obtain⟨q1,⟨es,clock,q2,q3,q4⟩,q5,q6⟩:=h;exact⟨hb,⟨es,clock,(hg.block b3 (Array.getElem?_eq_some_iff.1 q2).1 (by simpa using hne.symm)).trans q2,q3,q4⟩,q5,hne⟩
theorem out_coin{o:Outp}(h:o.ok):CoinOK (o.owner,o.amount):=⟨h.1,h.2.1,h.2.2⟩
theorem mint_any {tv : List Value} {t : Txn} (n me : Int) {X L : CoinsL} {s : Int} {g b : Nat} (w : World) (h : TxAt w tv t) (ht : Tabs w) (hc : CoinsAt w g b L s) (hrc : RelC X L s) :
  Calls Tryz.prog 13 #[.agg tv.toArray,.int .i64 n,.int .i64 me,.pointer (some ⟨g,0,none⟩)] w fun e w'=>e=.returned (.tuple #[.int .u64 (mintR X t n me).2.1,.int .i64 (mintR X t n me).2.2])∧(∃b' L' s',CoinsAt w' g b' L' s'∧RelC (mintR X t n me).1 L' s'∧(b'=b∨w.heap.size≤b'))∧Touched [g] w w':=by
 have HTC:=kp h.cl;have HCK:=kp (fun w' (k:Grow w w')=>(h.grow k).check);have HAT:=kp (fun w' (k:Grow w w')=>at_any n me w' (h.grow k) (ht.grow k));have HID:=kp (fun w' (k:Grow w w')=>(h.grow k).id (tid_dig t) (ht.grow k));have HZ:=kp (tid_dig t);have HZP:=kp (fun j:Nat=>show(tidB t).map B++[Value.int .i64 (j:Int)]=ptV (tidB t,(j:Int)) from rfl);have HCP:=kp (fun w' (k:Grow w w')=>ccopy_any g b L s w' (hc.call k));have HCN:=kp hc;have HRC:=kp hrc;have HGL:=kq (g < w.heap.size∧b < w.heap.size) ⟨hc.ltg,hc.ltb⟩;obtain⟨A,c,hv1,ho,hn⟩:=h.outs;have HO:=kp ho;have HV1:=kp hv1;have HRT:=kp (fun hck=>right_of (t:=t) hck);have HTL:=kp (fun hck=>tid_len (t:=t) hck);have HKL:=kp (fun k (hk:k∈hereO t n me)=>hereO_lt hk);have hk16:=hereO_len t n me;obtain⟨M3,hM3⟩:=xe (mintR X t n me);have HMR:=kq (M3=if checkT t≠0 then(X,0,checkT t) else if hereO t n me=[] then(X,0,11) else if(mintsR (tidB t) t.outs (hereO t n me) X 0).2.2≠0 then(X,0,(mintsR (tidB t) t.outs (hereO t n me) X 0).2.2) else mintsR (tidB t) t.outs (hereO t n me) X 0) hM3;rw[← hM3];obtain⟨ki,hki⟩:=xe (hereI t n me);obtain⟨ks,hks⟩:=xe (hereO t n me);rw[← hks]at HKL HAT hk16 HMR;rw[← hki]at HAT;obtain⟨zs,hzs⟩:=xe ((tidB t).map B);rw[← hzs]at HZ HID HZP;obtain⟨w_,hw⟩:=xe w;have HB:=kq (Below w.heap.size w w_) (by rw[hw];exact Below.refl _ _)
 suffices H:Calls Tryz.prog 13 #[.agg tv.toArray,.int .i64 n,.int .i64 me,.pointer (some ⟨g,0,none⟩)] w_ (fun e w'=>e=.returned (.tuple #[.int .u64 M3.2.1,.int .i64 M3.2.2])∧(∃b' L' s',CoinsAt w' g b' L' s'∧RelC M3.1 L' s'∧(b'=b∨w.heap.size≤b'))∧Touched [g] w w') by rw[hw]at H;exact H
 clear hw h hc hrc ht hv1 ho hM3 hks hki hzs;have HNO:=kp (fun w' (k:Grow w w') (er:Int) (hm:M3=(X,0,er))=>show(∃b' L' s',CoinsAt w' g b' L' s'∧RelC M3.1 L' s'∧(b'=b∨w.heap.size≤b'))∧Touched [g] w w' from⟨⟨b,L,s,HCN.o.call k,by rw[hm];exact HRC.o,.inl rfl⟩,Touched.of_below k⟩)
 go_enter Tryz.func13,Tryz.ntmps13
 go_wp2_with (with_reducible first|refine wpl_box (o:=⟨some 4,_,_,_,_,_⟩) rfl rfl rfl ?_);intro v_ b_ y_ s_;have HX_:=kp (at_mk b_ HTC.o.len);clear b_ s_;have HG_:=kp HB.o.size;replace HB:=kp (HB.o.grow' y_);generalize x_:w_.heap.size=g1 at HX_ HG_ ⊢;clear x_;have HX_g:=HG_;clear HG_;have HX:=HX_;clear y_ HX_;try clear w_
 rename World=>w_;go_wp2_with (with_reducible refine wlb 22 row_tx HX.o.blk HX.o.len ?_);refine(HCK.o _ HB.o).mono ?_;rintro e w_ ⟨rfl,y_⟩;replace HB:=kp (HB.o.grow' y_);replace HX:=kp (HX.o.grow y_);clear y_;by_cases hck:checkT t=0
 case neg =>
  have z1:(checkT t != 0)=true:=by simpa using hck
  have HE:=kq (M3=(X,0,checkT t)) (by rw[HMR.o,if_pos hck]);go_wp2_with fail
  go_ret2
  exact⟨by rw[HE.o];rfl,HNO.o _ HB.o _ HE.o⟩
 case pos =>
  have HMR1:=kq (M3=if ks=[] then(X,0,11) else if(mintsR (tidB t) t.outs ks X 0).2.2≠0 then(X,0,(mintsR (tidB t) t.outs ks X 0).2.2) else mintsR (tidB t) t.outs ks X 0) (by rw[HMR.o,if_neg (fun h=>h hck)]);have HRR:=kp (HRT.o hck);have HTL1:=kp (HTL.o hck);rw[hck];have z1:((0:Int) != 0)=false:=by decide
  clear HMR hck HRT HTL;go_wp2_with (with_reducible refine wlb 28 row_tx HX.o.blk HX.o.len ?_);refine(HAT.o _ HB.o).mono ?_;rintro e v_ ⟨A3,c3,A4,c4,rfl,_,ha,y_⟩;have HK:=kp (ha.less HB.o.size);replace HX:=kp (HX.o.grow y_);replace HB:=kp (HB.o.grow' y_);clear ha y_;try clear w_
  rename World=>w_;by_cases hk0:ks=[]
  case pos =>
   have HE:=kq (M3=(X,0,11)) (by rw[HMR1.o,if_pos hk0]);have z2:((ks.length:Int) == 0)=true:=by rw[hk0];rfl
   go_wp2_with fail
   go_ret2
   exact⟨by rw[HE.o];rfl,HNO.o _ HB.o _ HE.o⟩
  case neg =>
   have HMR2:=kq (M3=if(mintsR (tidB t) t.outs ks X 0).2.2≠0 then(X,0,(mintsR (tidB t) t.outs ks X 0).2.2) else mintsR (tidB t) t.outs ks X 0) (by rw[HMR1.o,if_neg hk0])
   have z2:((ks.length:Int) == 0)=false:=by
    have:ks.length≠0:=fun h=>hk0 (List.length_eq_zero_iff.1 h)
    simp;omega
   clear HMR1 hk0
   go_upto_region 9 with fail
   go_cut [13,14,15] from 37 to 40 (fun s13 s14 s15 wr=>∃g3 b3 gI,s13=.pointer (some ⟨g3,0,none⟩)∧s14=.pointer (some ⟨gI,0,none⟩)∧s15=.int .u64 0∧Hid (w.heap.size≤g3∧w.heap.size≤b3∧w.heap.size≤gI)∧Hid (CoinsAt wr g3 b3 L s∧At wr gI 46 32 zs∧At wr g1 27 4 tv∧NatsAt wr w.heap.size A4 ks∧Below w.heap.size w wr))
   case first =>
    try go_wp2_with fail
    repeat' (first|(with_reducible refine wpp (id:=9) Grow [0,4,1,3,4,0,3,0] (.get 0 (.get 2 (.fork 1 (.fork 3 (.act 4 (.get 5 (.act 6 (.get 7 .done)))) (.act 4 (.act 3 (.get 5 (.act 6 (.get 7 .done)))))) (.act 4 (.act 1 (.act 3 (.get 5 (.act 6 (.get 7 .done))))))))) Grow.refl Grow.trans ?_)|go_values|go_skip|go_guarded|go_step|go_upon|go_back)
    intro w_ hd_;have y_:=hd_.grow;replace HB:=kp (HB.o.grow' y_);replace HX:=kp (HX.o.grow y_);replace HK:=kp (HK.o.grow y_);clear y_ hd_;repeat (first|(refine pl_loadb rfl rfl (by first|exact wanted_none rfl|(go_simp;done)|rfl) rfl row_tx HX.o.blk (by first|rfl|(go_simp;done)|rfl) HX.o.len (fun K hK=>?_);go_simp;refine hK _ _ ?_;clear hK K)|(refine pl_loadbnow rfl rfl (by first|exact wanted_none rfl|(go_simp;done)|rfl) rfl row_tx HX.o.blk (by first|rfl|(go_simp;done)|rfl) HX.o.len (fun K hK=>?_);go_simp;refine hK _ _ ?_;clear hK K)|(refine plc (fun K hK=>?_);go_simp;refine hK _ _ ?_;clear hK K)|(refine pls (fun K hK=>?_);go_simp;refine hK _ _ ?_;clear hK K)|(refine psa (fun K hK=>?_);go_simp;refine hK _ _ ?_;clear hK K))
    refine pl_fork rfl (by first|exact wanted_none rfl|(go_simp;done)|rfl) (fun K hK=>?_) ?_
    ·skip
     go_wp2_with fail;refine(HCP.o _ HB.o).mono ?_;rintro e v_ ⟨g3,b3,rfl,hc_,hg3_,hb3_,y_⟩;have HC3:=kp hc_;have HG3:=kq (w.heap.size≤g3∧w.heap.size≤b3) (by have:=HB.o.size;omega);go_wp2_with fail;refine hK _ _ (fun _=>y_) ?_;clear hK K hc_ hg3_ hb3_;replace HB:=kp (HB.o.grow' y_);replace HX:=kp (HX.o.grow y_);replace HK:=kp (HK.o.grow y_);clear y_;try clear w_
     rename World=>w_;repeat ((first|refine plc (fun K hK=>?_)|refine pls (fun K hK=>?_)|refine psa (fun K hK=>?_));go_simp;refine hK _ _ ?_;clear hK K)
     refine pl_fork rfl (by first|exact wanted_none rfl|(go_simp;done)|rfl) (fun K hK=>?_) ?_
     ·skip
      go_wp2_with fail;refine(HID.o _ HB.o).mono ?_;rintro e v_ ⟨rfl,y_⟩;go_wp2_with fail;refine hK _ _ (fun h=>by first|exact y_|cases h) ?_;clear hK K;replace HB:=kp (HB.o.grow' y_);replace HX:=kp (HX.o.grow y_);replace HK:=kp (HK.o.grow y_);replace HC3:=kp (HC3.o.grow y_);clear y_;try clear w_
      rename World=>w_;repeat ((first|refine plc (fun K hK=>?_)|refine pls (fun K hK=>?_)|refine psa (fun K hK=>?_));go_simp;refine hK _ _ ?_;clear hK K)
      refine pl_act rfl (by first|exact wanted_none rfl|(go_simp;done)|rfl) (fun K hK=>?_);have HG:=kp HB.o.size;show wpList _ _ _ [⟨some _,.alloc _,_,_,_,_⟩] _ _
      go_wp2_with (with_reducible first|refine wpl_alloc (o:=⟨some 14,_,_,_,_,_⟩) rfl rfl zero_id ?_);intro v_ b_ y_ s_;have HV:=kp (at_mk b_ len_id);generalize x_:w_.heap.size=gI at HV HG ⊢;go_wp2_with fail;refine hK _ _ (fun _=>y_) ?_;clear hK K b_ s_ x_;replace HB:=kp (HB.o.grow' y_);replace HX:=kp (HX.o.grow y_);replace HK:=kp (HK.o.grow y_);replace HC3:=kp (HC3.o.grow y_);clear y_;try clear w_
      rename World=>w_;repeat ((first|refine plc (fun K hK=>?_)|refine pls (fun K hK=>?_)|refine psa (fun K hK=>?_));go_simp;refine hK _ _ ?_;clear hK K)
      have HNV:=kq (gI∉[g3,b3]) (HV.o.ne_coins HC3.o (by decide));refine pl_act rfl (by first|exact wanted_none rfl|(go_simp;done)|rfl) (fun K hK=>?_);show wpList _ _ _ [⟨none,.store _ _ _,_,_,_,_⟩] _ _
      have HNX:=kq (g1≠gI) (fun e=>by have h1:=HX.o.blk;have h2:=HV.o.blk;rw[e]at h1;unfold Blk at h1 h2;rw[h1]at h2;injection h2 with h2;injection h2 with _ h2;exact absurd h2 (by decide));have HNK:=kq (At w_ gI 46 32 ((List.replicate 32 (0:UInt8)).map B)) HV.o;go_wp2_with (with_reducible refine wsb row_id HV.o.blk HV.o.len HZ.o.len HZ.o.one ?_);intro v_ b_ g_ s_;have HB_:=kp (put_below HB.o HG.o g_);have HV_:=kp (at_mk b_ HZ.o.len);have HX_:=kp (At.off HX.o g_ HNX.o);have HC_:=kp (HC3.o.grown g_ (fun e=>HNV.o (by simp only [Option.some.injEq]at e;rw[← e];simp)) (fun e=>HNV.o (by simp only [Option.some.injEq]at e;rw[← e];simp)));have HK_:=kp (HK.o.grownI g_ HNK.o);clear b_ g_ s_ HB HV HX HC3 HK HNK;go_wp2_with fail;refine hK _ _ (fun h=>by cases h) ?_;clear hK K;repeat ((first|refine plc (fun K hK=>?_)|refine pls (fun K hK=>?_)|refine psa (fun K hK=>?_));go_simp;refine hK _ _ ?_;clear hK K)
      refine pl_done ?_;go_wp2_with fail
      go_meet
      case rel=>exact⟨g3,b3,gI,rfl,rfl,rfl,kp ⟨HG3.o.1,HG3.o.2,HG.o⟩,kp ⟨HC_.o,HV_.o,HX_.o,HK_.o,HB_.o⟩⟩
     ·skip
      refine pl_act rfl (by first|exact wanted_none rfl|(go_simp;done)|rfl) (fun K hK=>?_);have HG:=kp HB.o.size;show wpList _ _ _ [⟨some _,.alloc _,_,_,_,_⟩] _ _
      go_wp2_with (with_reducible first|refine wpl_alloc (o:=⟨some 14,_,_,_,_,_⟩) rfl rfl zero_id ?_);intro v_ b_ y_ s_;have HV:=kp (at_mk b_ len_id);generalize x_:w_.heap.size=gI at HV HG ⊢;go_wp2_with fail;refine hK _ _ (fun _=>y_) ?_;clear hK K b_ s_ x_;replace HB:=kp (HB.o.grow' y_);replace HX:=kp (HX.o.grow y_);replace HK:=kp (HK.o.grow y_);replace HC3:=kp (HC3.o.grow y_);clear y_;try clear w_
      rename World=>w_;repeat ((first|refine plc (fun K hK=>?_)|refine pls (fun K hK=>?_)|refine psa (fun K hK=>?_));go_simp;refine hK _ _ ?_;clear hK K)
      refine pl_act rfl (by first|exact wanted_none rfl|(go_simp;done)|rfl) (fun K hK=>?_);go_wp2_with fail;refine(HID.o _ HB.o).mono ?_;rintro e v_ ⟨rfl,y_⟩;go_wp2_with fail;refine hK _ _ (fun h=>by first|exact y_|cases h) ?_;clear hK K;replace HB:=kp (HB.o.grow' y_);replace HX:=kp (HX.o.grow y_);replace HK:=kp (HK.o.grow y_);replace HC3:=kp (HC3.o.grow y_);replace HV:=kp (HV.o.grow y_);clear y_;try clear w_
      rename World=>w_;repeat ((first|refine plc (fun K hK=>?_)|refine pls (fun K hK=>?_)|refine psa (fun K hK=>?_));go_simp;refine hK _ _ ?_;clear hK K)
      have HNV:=kq (gI∉[g3,b3]) (HV.o.ne_coins HC3.o (by decide));refine pl_act rfl (by first|exact wanted_none rfl|(go_simp;done)|rfl) (fun K hK=>?_);show wpList _ _ _ [⟨none,.store _ _ _,_,_,_,_⟩] _ _
      have HNX:=kq (g1≠gI) (fun e=>by have h1:=HX.o.blk;have h2:=HV.o.blk;rw[e]at h1;unfold Blk at h1 h2;rw[h1]at h2;injection h2 with h2;injection h2 with _ h2;exact absurd h2 (by decide));have HNK:=kq (At w_ gI 46 32 ((List.replicate 32 (0:UInt8)).map B)) HV.o;go_wp2_with (with_reducible refine wsb row_id HV.o.blk HV.o.len HZ.o.len HZ.o.one ?_);intro v_ b_ g_ s_;have HB_:=kp (put_below HB.o HG.o g_);have HV_:=kp (at_mk b_ HZ.o.len);have HX_:=kp (At.off HX.o g_ HNX.o);have HC_:=kp (HC3.o.grown g_ (fun e=>HNV.o (by simp only [Option.some.injEq]at e;rw[← e];simp)) (fun e=>HNV.o (by simp only [Option.some.injEq]at e;rw[← e];simp)));have HK_:=kp (HK.o.grownI g_ HNK.o);clear b_ g_ s_ HB HV HX HC3 HK HNK;go_wp2_with fail;refine hK _ _ (fun h=>by cases h) ?_;clear hK K;repeat ((first|refine plc (fun K hK=>?_)|refine pls (fun K hK=>?_)|refine psa (fun K hK=>?_));go_simp;refine hK _ _ ?_;clear hK K)
      refine pl_done ?_;go_wp2_with fail
      go_meet
      case rel=>exact⟨g3,b3,gI,rfl,rfl,rfl,kp ⟨HG3.o.1,HG3.o.2,HG.o⟩,kp ⟨HC_.o,HV_.o,HX_.o,HK_.o,HB_.o⟩⟩
    ·skip
     refine pl_act rfl (by first|exact wanted_none rfl|(go_simp;done)|rfl) (fun K hK=>?_);have HG:=kp HB.o.size;show wpList _ _ _ [⟨some _,.alloc _,_,_,_,_⟩] _ _
     go_wp2_with (with_reducible first|refine wpl_alloc (o:=⟨some 14,_,_,_,_,_⟩) rfl rfl zero_id ?_);intro v_ b_ y_ s_;have HV:=kp (at_mk b_ len_id);generalize x_:w_.heap.size=gI at HV HG ⊢;go_wp2_with fail;refine hK _ _ (fun _=>y_) ?_;clear hK K b_ s_ x_;replace HB:=kp (HB.o.grow' y_);replace HX:=kp (HX.o.grow y_);replace HK:=kp (HK.o.grow y_);clear y_;try clear w_
     rename World=>w_;repeat ((first|refine plc (fun K hK=>?_)|refine pls (fun K hK=>?_)|refine psa (fun K hK=>?_));go_simp;refine hK _ _ ?_;clear hK K)
     refine pl_act rfl (by first|exact wanted_none rfl|(go_simp;done)|rfl) (fun K hK=>?_);go_wp2_with fail;refine(HCP.o _ HB.o).mono ?_;rintro e v_ ⟨g3,b3,rfl,hc_,hg3_,hb3_,y_⟩;have HC3:=kp hc_;have HG3:=kq (w.heap.size≤g3∧w.heap.size≤b3) (by have:=HB.o.size;omega);go_wp2_with fail;refine hK _ _ (fun _=>y_) ?_;clear hK K hc_ hg3_ hb3_;replace HB:=kp (HB.o.grow' y_);replace HX:=kp (HX.o.grow y_);replace HK:=kp (HK.o.grow y_);replace HV:=kp (HV.o.grow y_);clear y_;try clear w_
     rename World=>w_;repeat ((first|refine plc (fun K hK=>?_)|refine pls (fun K hK=>?_)|refine psa (fun K hK=>?_));go_simp;refine hK _ _ ?_;clear hK K)
     refine pl_act rfl (by first|exact wanted_none rfl|(go_simp;done)|rfl) (fun K hK=>?_);go_wp2_with fail;refine(HID.o _ HB.o).mono ?_;rintro e v_ ⟨rfl,y_⟩;go_wp2_with fail;refine hK _ _ (fun h=>by first|exact y_|cases h) ?_;clear hK K;replace HB:=kp (HB.o.grow' y_);replace HX:=kp (HX.o.grow y_);replace HK:=kp (HK.o.grow y_);replace HV:=kp (HV.o.grow y_);replace HC3:=kp (HC3.o.grow y_);clear y_;try clear w_
     rename World=>w_;repeat ((first|refine plc (fun K hK=>?_)|refine pls (fun K hK=>?_)|refine psa (fun K hK=>?_));go_simp;refine hK _ _ ?_;clear hK K)
     have HNV:=kq (gI∉[g3,b3]) (HV.o.ne_coins HC3.o (by decide));refine pl_act rfl (by first|exact wanted_none rfl|(go_simp;done)|rfl) (fun K hK=>?_);show wpList _ _ _ [⟨none,.store _ _ _,_,_,_,_⟩] _ _
     have HNX:=kq (g1≠gI) (fun e=>by have h1:=HX.o.blk;have h2:=HV.o.blk;rw[e]at h1;unfold Blk at h1 h2;rw[h1]at h2;injection h2 with h2;injection h2 with _ h2;exact absurd h2 (by decide));have HNK:=kq (At w_ gI 46 32 ((List.replicate 32 (0:UInt8)).map B)) HV.o;go_wp2_with (with_reducible refine wsb row_id HV.o.blk HV.o.len HZ.o.len HZ.o.one ?_);intro v_ b_ g_ s_;have HB_:=kp (put_below HB.o HG.o g_);have HV_:=kp (at_mk b_ HZ.o.len);have HX_:=kp (At.off HX.o g_ HNX.o);have HC_:=kp (HC3.o.grown g_ (fun e=>HNV.o (by simp only [Option.some.injEq]at e;rw[← e];simp)) (fun e=>HNV.o (by simp only [Option.some.injEq]at e;rw[← e];simp)));have HK_:=kp (HK.o.grownI g_ HNK.o);clear b_ g_ s_ HB HV HX HC3 HK HNK;go_wp2_with fail;refine hK _ _ (fun h=>by cases h) ?_;clear hK K;repeat ((first|refine plc (fun K hK=>?_)|refine pls (fun K hK=>?_)|refine psa (fun K hK=>?_));go_simp;refine hK _ _ ?_;clear hK K)
     refine pl_done ?_;go_wp2_with fail
     go_meet
     case rel=>exact⟨g3,b3,gI,rfl,rfl,rfl,kp ⟨HG3.o.1,HG3.o.2,HG.o⟩,kp ⟨HC_.o,HV_.o,HX_.o,HK_.o,HB_.o⟩⟩
   case rest =>
    obtain⟨g3,b3,gI,rfl,rfl,rfl,x_,hI⟩:=hcut;clear HX HB HK;obtain⟨hc_,hv_,hx_,hk_,y_⟩:=hI.o;have HG3:=kp x_.o;obtain⟨R,hR⟩:=xe (mintsR (tidB t) t.outs ks X 0);have HM:=kq (M3=if R.2.2≠0 then(X,0,R.2.2) else R) (by rw[hR];exact HMR2.o);have HI0:=kq (At wc g1 27 4 tv∧At wc gI 46 32 zs∧NatsAt wc w.heap.size A4 ks∧CoinsAt wc g3 b3 L s∧RelC X L s∧Below w.heap.size w wc∧mintsR (tidB t) t.outs (ks.drop 0) X 0=R) ⟨hx_,hv_,hk_,hc_,HRC.o,y_,by rw[List.drop_zero];exact hR.symm⟩;clear hI hc_ hv_ hx_ hk_ y_ x_ hR HMR2 HAT HCP HID;go_wp2_with fail;go_loopw [15,43] (fun s15 iv wr=>∃(k:Nat) (sm:Int),k≤ks.length∧iv=.int .i64 k∧s15=.int .u64 sm∧Hid (∃Z M s',At wr g1 27 4 tv∧At wr gI 46 32 zs∧NatsAt wr w.heap.size A4 ks∧CoinsAt wr g3 b3 M s'∧RelC Z M s'∧Below w.heap.size w wr∧mintsR (tidB t) t.outs (ks.drop k) Z sm=R)) (fun _ iv _=>ks.length - (intOf iv).toNat)
    case atStart=>exact⟨0,0,Nat.zero_le _,rfl,rfl,kp ⟨X,L,s,HI0.o⟩⟩
    case round =>
     obtain⟨k,sm,hk,rfl,rfl,hI⟩:=hrel;clear HI0;obtain⟨Z,M,s',hx_,hv_,hk_,hc_,hr_,y_,hs_⟩:=hI.o;have HX:=kp hx_;have HI:=kp hv_;have HK:=kp hk_;have HC:=kp hc_;have HR:=kp hr_;have HB:=kp y_;have HS:=kp hs_;clear hI hx_ hv_ hk_ hc_ hr_ y_ hs_;rename World=>w_;by_cases hlt:k < ks.length
     ·obtain⟨b5,o5,j,rfl,hj,c5⟩:=HK.o.at_ hlt;have hjl:=HKL.o j (List.mem_of_getElem? hj);obtain⟨bo,oo,o,rfl,hp,hok,hcc⟩:=(HO.o.grow HB.o).at_ hjl;have HST:=kq (R=if(rputC Z (tidB t,(j:Int)) (o.owner,o.amount)).2≠0 then(Z,0,(rputC Z (tidB t,(j:Int)) (o.owner,o.amount)).2) else mintsR (tidB t) t.outs (ks.drop (k+1)) (rputC Z (tidB t,(j:Int)) (o.owner,o.amount)).1 (w64 (sm+o.amount))) (by rw[← HS.o];exact mintsR_step hj hp);have HPO:=kq (PtOK (tidB t,(j:Int))) ⟨HTL1.o,by have:=HRR.o.2.1;simp [Lit.wf,IntKind.min,IntKind.max,IntKind.signed,IntKind.bits];omega⟩;have HCO:=kp (out_coin hok);have HPU:=kp (fun w' (h':CoinsAt w' g3 b3 M s')=>put_any g3 b3 M s' (tidB t,(j:Int)) (o.owner,o.amount) w' h' HPO.o HCO.o HR.o.nn HR.o.max);rw[HR.o.code _ _ HCO.o]at HST;have HRP:=kp (fun h0=>HR.o.put HPO.o HCO.o h0);unfold ptA coinA at HPU;have HOC:=kp (outV_cl hok);have HMC:=kp hcc;have BT:=kq (Tryz.prog.built 69 [(0,.agg zs.toArray),(1,.int .i64 (j:Int))]=some (ptV (tidB t,(j:Int))).toArray) (by rw[bt_pt8 HZ.o.len,HZP.o]);have HOL:=kq (Cl 32 (o.owner.map B)) ⟨by rw[List.length_map];exact hok.1,all_bytes _⟩;have BC:=kq (Tryz.prog.built 77 [(0,.agg (o.owner.map B).toArray),(1,.int .u64 o.amount)]=some (coinV (o.owner,o.amount)).toArray) (by rw[bt_coin8 HOL.o.len];rfl);have HOO:=kq (∀i u,(o.owner.map B)[i]? = some u→(outV o)[i]? = some u) (fun i u hu=>coin_own (c:=(o.owner,o.amount)) hu);have HOA:=kp (out_at hok);obtain⟨pq,hpq⟩:=xe (((tidB t,(j:Int)):PtK));rw[← hpq]at HST HPU HRP BT;obtain⟨cq,hcq⟩:=xe (((o.owner,o.amount):CoinV));rw[← hcq]at HST HPU HRP BC;obtain⟨am,ham⟩:=xe o.amount;rw[← ham]at HST BC HOA;obtain⟨es,hes⟩:=xe (ptV pq);rw[← hes]at HPU BT;obtain⟨cs,hcs⟩:=xe (coinV cq);rw[← hcs]at HPU BC;obtain⟨ow,how⟩:=xe (o.owner.map B);rw[← how]at BC HOO HOL;obtain⟨ov,hov⟩:=xe (outV o);rw[← hov]at HMC HOC HOO HOA;obtain⟨er,her⟩:=xe (putR M s' pq cq);rw[← her]at HST HPU HRP;have c0:=HX.o.blk.at_ HV1.o;have q1:((j:Int) < (t.outs.length:Int)):=by omega
      clear hj hp hok hcc HS HCO HPO hpq hcq ham hes hcs how hov her HR;go_wp2_with (with_reducible first|refine wlm 51 row_tout HMC.o HOC.o.len ?_|refine wpl_alloc (o:=⟨some 18,_,_,_,_,_⟩) rfl rfl zero_tout ?_);intro w1_ hb1_ hbw1_ hsz1_;have HB1_:=kp (at_mk hb1_ len_tout);have HBW1_:=kp hbw1_;have HZ1_:=kp hsz1_;clear hb1_ hbw1_ hsz1_;go_wp2_with (with_reducible refine wsb row_tout HB1_.o.blk HB1_.o.len HOC.o.len HOC.o.one ?_);intro v_ b_ g_ s_;have y_:=var_grow HBW1_.o HZ1_.o g_;have HX_:=kp (at_mk b_ HOC.o.len);clear b_ g_ s_ HB1_ HBW1_ HZ1_;replace HB:=kp (HB.o.grow' y_);replace HX:=kp (HX.o.grow y_);replace HI:=kp (HI.o.grow y_);replace HK:=kp (HK.o.grow y_);replace HC:=kp (HC.o.grow y_);generalize x_:w_.heap.size=gV at HX_ ⊢;clear x_;have HV:=HX_;clear y_ HX_;clear w1_;try clear w_
      rename World=>w_;clear c0 c5;have HM1:=kq (∀i u,ow[i]? = some u→w_.cell? ⟨gV,0+i,none⟩=some u) (fun i u hu=>by rw[Nat.zero_add];exact HV.o.blk.at_ (HOO.o i u hu));have c1:=HV.o.blk.at_ HOA.o;go_wp2_with (with_reducible first|refine wlb 53 row_id HI.o.blk HI.o.len ?_|refine wst 55 ?_);refine stop_go ?_;refine wpl_build rfl rfl BT.o ?_;go_wp2_with (with_reducible first|refine wlm 57 row_id HM1.o HOL.o.len ?_|refine wst 60 ?_);refine stop_go ?_;refine wpl_build rfl rfl BC.o ?_;go_wp2_with fail;refine Calls.mono (show Calls Tryz.prog 32 _ w_ _ from HPU.o w_ HC.o) ?_;rintro e v_ ⟨rfl,ht_,h1_,h2_⟩;have HH1:=kp h1_;have HNX:=kp (HX.o.ne_coins HC.o (by decide));have HNI:=kp (HI.o.ne_coins HC.o (by decide));have HNV:=kp (HV.o.ne_coins HC.o (by decide));have HKT:=kp (HK.o.touchC HC.o ht_);replace HX:=kp (HX.o.touchd ht_ HNX.o);replace HI:=kp (HI.o.touchd ht_ HNI.o);replace HV:=kp (HV.o.touchd ht_ HNV.o);replace HB:=kp (below_touch HB.o ht_ (fun x hx=>by have:=HG3.o;simp only [List.mem_cons,List.not_mem_nil,or_false]at hx;rcases hx with rfl|rfl;exact this.1;exact this.2.1));clear ht_ h1_ h2_ HNX HNI HNV HM1 c1 HPU HC HK HMC;try clear w_
      rename World=>w_;have c1:=HV.o.blk.at_ HOA.o;by_cases h0:er=0
      ·have HST2:=kq (mintsR (tidB t) t.outs (ks.drop (k+1)) (rputC Z pq cq).1 (w64 (sm+am))=R) (by rw[HST.o,if_neg (fun h=>h h0)]);have HC2:=kp (HH1.o h0);have HR2:=kp (HRP.o h0);subst h0;have z3:((0:Int) != 0)=false:=by decide
       clear HST HH1 HRP;go_wp2_with fail;go_roundw
       case rel=>exact⟨k+1,w64 (sm+am),by omega,by go_num,rfl,kp ⟨_,_,_,HX.o,HI.o,HKT.o,HC2.o,HR2.o,HB.o,HST2.o⟩⟩
       case measure=>simp [intOf];omega
      ·have z3:(er != 0)=true:=by simpa using h0
       have HE:=kq (M3=(X,0,er)) (by rw[HM.o,HST.o,if_pos h0,if_pos h0]);go_wp2_with fail
       go_ret2
       exact⟨by rw[HE.o];rfl,HNO.o _ HB.o _ HE.o⟩
     ·obtain rfl:k=ks.length:=by omega
      have HRE:=kq (R=(Z,sm,0)) (by rw[← HS.o,List.drop_length];rfl);have HE:=kq (M3=(Z,sm,0)) (by rw[HM.o,HRE.o];rfl);have HCL:=kp (coins_cl b3 s');have HCG:=kq (Blk w_ g 90 [.map (some b),.int .u64 s]) ((HCN.o.call HB.o).blk);have HNG:=kq (g≠b3) (by have:=HGL.o;have:=HG3.o;omega);go_wp2_with (with_reducible first|refine wlb 73 row_coins8 HC.o.blk rfl ?_|refine wsb row_coins8 HCG.o rfl HCL.o.len HCL.o.one ?_);intro v_ b_ g_ s_;have HCF:=kp (HC.o.moved b_ g_ HNG.o);have HTF:=kq (Touched [g] w v_) ((Touched.of_below HB.o).grown g_ (.inl (by simp)));clear b_ g_ s_;go_wp2_with fail
      go_ret2
      exact⟨by rw[HE.o];rfl,⟨b3,M,s',HCF.o,by rw[HE.o];exact HR.o,.inr HG3.o.2.1⟩,HTF.o⟩
end Go.Proofs.YtnnjjbkdjkjnpaaGreatDoor

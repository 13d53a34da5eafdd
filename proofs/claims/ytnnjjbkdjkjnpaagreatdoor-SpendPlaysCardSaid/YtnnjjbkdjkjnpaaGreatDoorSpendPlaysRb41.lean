/- The given card SpendPlaysCardSaid,out of the walk spendPlays_walk: for every input the law returns true,and each argument reads as it did;the tables of package sha are tied to the program's text. No condition. -/
import Derived.Test.YtnnjjbkdjkjnpaaGreatDoorSpendPlaysRb39
import Derived.Test.YtnnjjbkdjkjnpaaGreatDoorSpendPlaysRb40
import Derived.ShutString
import Derived.ChangeOld
set_option linter.unusedSimpArgs false
set_option linter.unusedVariables false
set_option maxRecDepth 100000
set_option maxHeartbeats 16000000
namespace Go.Proofs.YtnnjjbkdjkjnpaaGreatDoor
open Go.RowKit Go.Shelf
theorem CoinsAt.no2{w:World}{g b q o:Nat}{L:CoinsL}{s:Int}{u:Value}(hc:CoinsAt w g b L s)(hu:w.cell? ⟨q,o+2,none⟩=some u):q≠g∧q≠b:=by
 constructor
 ·rintro rfl;rw[hc.blk.cell (o+2)]at hu;have h3:([Value.map (some b),Value.int .u64 s])[o+2]? = none:=List.getElem?_eq_none (by simp);rw[h3]at hu;cases hu
 ·rintro rfl;obtain⟨es,clock,h3,_⟩:=hc.map;obtain⟨o',h5,h6⟩:=cells_of_cell hu;rw[h3]at h5;cases h5;cases h6
theorem LocksAt.no2{w:World}{g b q o:Nat}{L:LocksL}{s:Int}{u:Value}(hc:LocksAt w g b L s)(hu:w.cell? ⟨q,o+2,none⟩=some u):q≠g∧q≠b:=by
 constructor
 ·rintro rfl;rw[hc.blk.cell (o+2)]at hu;have h3:([Value.map (some b),Value.int .u64 s])[o+2]? = none:=List.getElem?_eq_none (by simp);rw[h3]at hu;cases hu
 ·rintro rfl;obtain⟨es,clock,h3,_⟩:=hc.map;obtain⟨o',h5,h6⟩:=cells_of_cell hu;rw[h3]at h5;cases h5;cases h6
theorem StAt.touch{w w':World}{sv:List Value}{X L:CoinsL}{Y K:LocksL}{g b g2 b2:Nat}{s s2:Int}(h:StAt w sv X Y)(hc:CoinsAt w g b L s)(hk:LocksAt w g2 b2 K s2)(ht:Touched [g,b,g2,b2] w w'):StAt w' sv X Y:=
 h.wide (fun q hq ⟨o,u,hu⟩=>ht.block q hq (by
  have h1:=hc.no2 hu;have h2:=hk.no2 hu;simp only [List.mem_cons,List.not_mem_nil,or_false,not_or]
  exact⟨h1.1,h1.2,h2.1,h2.2⟩)) ht.size
theorem StAt.offI{w w':World}{sv:List Value}{X:CoinsL}{Y:LocksL}{g m:Nat}{T:TypeId}{bs:List UInt8}(h:StAt w sv X Y)(hg:At w g T m (bs.map B))(hw:w.grownBy w' (some g)):StAt w' sv X Y:=by
 obtain⟨A,n,c,A2,n2,c2,h1,⟨h2,h2'⟩,⟨h3,h3'⟩⟩:=h
 have key:∀(o:Nat) (z:Int),w.cell? ⟨g,o,none⟩=some (.int .i64 z)→False:=fun o z h5=>by
  rw[hg.blk.cell o,List.getElem?_map]at h5;cases hx:bs[o]? with
  | none=>rw[hx]at h5;cases h5
  | some y=>rw[hx]at h5;cases h5
 refine⟨A,n,c,A2,n2,c2,h1,⟨⟨h2.1,fun hn=>?_⟩,h2'⟩,⟨⟨h3.1,fun hn=>?_⟩,h3'⟩⟩
 ·obtain⟨q,off,hA,hq,hcell⟩:=h2.2 hn
  have hne:q≠g:=by
   rintro rfl;cases X with
   | nil=>have:=h2'.2;simp at this;omega
   | cons e r =>
    have ho:=h2'.1 e (List.mem_cons_self ..);exact key _ _ (hcell 32 (.int .i64 e.1.2) (by rw[List.flatMap_cons,List.getElem?_append_left (by rw[encAtC_len ho];omega)];have:=encAtC_pt ho (ptV_ix ho.1.1);simpa using this))
  exact⟨q,off,hA,Nat.lt_of_lt_of_le hq hw.size,fun j v hv=>(World.cell?_of_block (w:=w) (hw.block q hq (by simpa using hne))).trans (hcell j v hv)⟩
 ·obtain⟨q,off,hA,hq,hcell⟩:=h3.2 hn
  have hne:q≠g:=by
   rintro rfl;cases Y with
   | nil=>have:=h3'.2;simp at this;omega
   | cons e r =>
    have ho:=h3'.1 e (List.mem_cons_self ..);exact key _ _ (hcell 32 (.int .i64 e.1.2) (by rw[List.flatMap_cons,List.getElem?_append_left (by rw[encAtK_len ho];omega)];exact encAtK_ix ho))
  exact⟨q,off,hA,Nat.lt_of_lt_of_le hq hw.size,fun j v hv=>(World.cell?_of_block (w:=w) (hw.block q hq (by simpa using hne))).trans (hcell j v hv)⟩
theorem At.ne_four{w:World}{g b g2 b2 q n:Nat}{T:TypeId}{xs:List Value}{L:CoinsL}{s:Int}{K:LocksL}{s2:Int}(h:At w q T n xs)(hc:CoinsAt w g b L s)(hk:LocksAt w g2 b2 K s2)(hT:T≠90)(hT2:T≠99):q∉[g,b,g2,b2]:=by
 have h1:=h.ne_coins hc hT;have h2:=h.ne_locks hk hT2;simp only [List.mem_cons,List.not_mem_nil,or_false,not_or]at h1 h2 ⊢;exact⟨h1.1,h1.2,h2.1,h2.2⟩
theorem ne_new{g b b' g2 b2 N:Nat}(hne:g2∉[g,b]∧b2∉[g,b]∧g∉[g2,b2]∧b∉[g2,b2])(hb:b'=b∨N≤b')(h2:g2 < N∧b2 < N):g2∉[g,b']∧b2∉[g,b']∧g∉[g2,b2]∧b'∉[g2,b2]:=by
 rcases hb with rfl|hb
 ·exact hne
 ·simp only [List.mem_cons,List.not_mem_nil,or_false,not_or]at hne ⊢;omega
def Twin(w0 w:World)(g g2 b2 gS:Nat):Prop:=∃X Y b L s K s2 sv,CoinsAt w g b L s∧RelC X L s∧LocksAt w g2 b2 K s2∧RelK Y K s2∧(g2∉[g,b]∧b2∉[g,b]∧g∉[g2,b2]∧b∉[g2,b2])∧w0.heap.size≤b∧At w gS 37 2 sv∧StAt w sv X Y∧Below w0.heap.size w0 w
theorem spendPlays_walk (A : Option Addr) (n c : Nat) (l : List HeldV) (A2 : Option Addr) (n2 c2 : Nat) (l2 : List HeldV) (z me : Int) (A3 : Option Addr) (n3 c3 : Nat) (la : List ActS) (w : World) (hh : HeldsAt w A n l) (hn : n ≤ 9223372036854775807) (hh2 : HeldsAt w A2 n2 l2) (hn2 : n2 ≤ 9223372036854775807) (wz : (Lit.int .u8 z).wf = true) (wm : (Lit.int .i64 me).wf = true) (ha : ActsS w A3 n3 la) (hn3 : n3 ≤ 9223372036854775807) (ht : Tabs w) :
  Calls Tryz.prog 6 #[.slice A n c,.slice A2 n2 c2,.int .u8 z,.int .i64 me,.slice A3 n3 c3] w fun e w'=>e=.returned (.bool true)∧Below w.heap.size w w':=by
 have HAW:=kp (fun w' (k:Grow w w')=>awake22_any w' (ht.grow k));have HTT:=kp (fun w' (k:Grow w w')=>ht.grow k);have HH:=kp hh;have HH2:=kp hh2;have HA:=kp ha;have b1:=bounds_u8 wz;have e1:z.tmod 66=z % 66:=Int.tmod_eq_emod_of_nonneg b1.1;obtain⟨md,hmd⟩:=xe (z % 66);have hmd1:0≤md∧md≤65:=by omega
 rw[← hmd]at e1;obtain⟨w_,hw⟩:=xe w;have HB:=kq (Below w.heap.size w w_) (by rw[hw];exact Below.refl _ _)
 suffices H:Calls Tryz.prog 6 #[.slice A n c,.slice A2 n2 c2,.int .u8 z,.int .i64 me,.slice A3 n3 c3] w_ (fun e w'=>e=.returned (.bool true)∧Below w.heap.size w w') by rw[hw]at H;exact H
 clear hw hh hh2 ha wz wm ht hmd
 go_enter Tryz.func6,Tryz.ntmps6
 by_cases h30:30 < n
 ·have h30c:(30:Int) < (n:Int):=by omega
  go_wp2_with fail;refine(HAW.o _ HB.o).mono ?_;rintro e w_ ⟨rfl,y_⟩;replace HB:=kp (HB.o.grow' y_);clear y_;go_wp2_with fail;go_ret
  exact⟨rfl,HB.o⟩
 have h30c:¬ ((30:Int) < (n:Int)):=by omega
 by_cases h30b:30 < n2
 ·have h30bc:(30:Int) < (n2:Int):=by omega
  go_wp2_with fail;refine(HAW.o _ HB.o).mono ?_;rintro e w_ ⟨rfl,y_⟩;replace HB:=kp (HB.o.grow' y_);clear y_;go_wp2_with fail;go_ret
  exact⟨rfl,HB.o⟩
 have h30bc:¬ ((30:Int) < (n2:Int)):=by omega
 by_cases h12:12 < n3
 ·have h12c:(12:Int) < (n3:Int):=by omega
  go_wp2_with fail;refine(HAW.o _ HB.o).mono ?_;rintro e w_ ⟨rfl,y_⟩;replace HB:=kp (HB.o.grow' y_);clear y_;go_wp2_with fail;go_ret
  exact⟨rfl,HB.o⟩
 have h12c:¬ ((12:Int) < (n3:Int)):=by omega
 have HGC0:=kp (sttC_good l HH.o.2.2 [] GoodC.nil);have HGC:=kq (GoodC (sttC l)) HGC0.o;have HGK0:=kp (sttK_good l2 HH2.o.2.2 [] GoodK.nil);have HGK:=kq (GoodK (sttK l2)) HGK0.o;clear HGC0 HGK0;have HST:=kp (fun w' (k:Grow w w')=>state_any (c:=c) (c2:=c2) w' (HH.o.grow k) (HH2.o.grow k) (by omega) (by omega));obtain⟨X0,hX⟩:=xe (sttC l);obtain⟨Y0,hY⟩:=xe (sttK l2);rw[← hX]at HGC HST;rw[← hY]at HGK HST;clear hX hY HH HH2;go_wp2_with fail;refine(HST.o _ HB.o).mono ?_;rintro e v_ ⟨A4,n4,c4,A5,n5,c5,rfl,hr3,hr4,y_⟩;have HR3:=kp hr3;have HR4:=kp hr4;have HSA:=kq (StAt v_ (stV A4 n4 c4 A5 n5 c5) X0 Y0) ⟨_,_,_,_,_,_,rfl,hr3,hr4⟩;replace HB:=kp (HB.o.grow' y_);clear hr3 hr4 y_ HST;try clear w_
 rename World=>w_;have HMD:=kp (fun w' (h1:RowC w' A4 n4 X0) (h2:RowK w' A5 n5 Y0)=>made_any (c:=c4) (c2:=c5) w' HGC.o HGK.o h1 h2);have HSC:=kp (stV_cl (A:=A4) (n:=n4) (c:=c4) (A2:=A5) (n2:=n5) (c2:=c5));obtain⟨sv,hsv⟩:=xe (stV A4 n4 c4 A5 n5 c5);rw[← hsv]at HMD HSC HSA ⊢;clear hsv;go_wp2_with (with_reducible first|refine wpl_alloc (o:=⟨some 12,_,_,_,_,_⟩) rfl rfl zero_state ?_);intro w1_ hb1_ hbw1_ hsz1_;have HB1_:=kp (at_mk hb1_ len_state);have HBW1_:=kp hbw1_;have HZ1_:=kp hsz1_;clear hb1_ hbw1_ hsz1_;go_wp2_with (with_reducible refine wsb row_state HB1_.o.blk HB1_.o.len HSC.o.len HSC.o.one ?_);intro v_ b_ g_ s_;have HG_:=kp HB.o.size;have y_:=var_grow HBW1_.o HZ1_.o g_;have HX_:=kp (at_mk b_ HSC.o.len);clear b_ g_ s_ HB1_ HBW1_ HZ1_;replace HB:=kp (HB.o.grow' y_);replace HR3:=kp (HR3.o.grow y_);replace HR4:=kp (HR4.o.grow y_);replace HSA:=kp (HSA.o.grow y_);generalize x_:w_.heap.size=gS at HX_ HG_ ⊢;clear x_;have HS:=HX_;clear y_ HX_;clear w1_;try clear w_
 rename World=>w_;have HS_g:=HG_;clear HG_;go_wp2_with (with_reducible refine wlb 43 row_state HS.o.blk HS.o.len ?_);refine(HMD.o w_ HR3.o HR4.o).mono ?_;rintro e v_ ⟨g,b,g2,b2,rfl,hc_,hk_,hgb_,hne_,y_⟩;have HGG:=kq (w.heap.size≤g∧w.heap.size≤g2∧w.heap.size≤b2) (by have:=HB.o.size;omega);have HI0:=kq (Twin w v_ g g2 b2 gS) ⟨X0,Y0,b,_,_,_,_,sv,hc_,HGC.o.self,hk_,HGK.o.self,hne_,by have:=HB.o.size;omega,HS.o.grow y_,HSA.o.grow y_,HB.o.grow' y_⟩;clear hc_ hk_ hgb_ hne_ y_ HMD HR3 HR4 HSA HSC HS HB HGC HGK;try clear w_
 rename World=>w_;go_wp2_with fail;go_loopw [15] (fun iv wr=>∃k:Nat,k≤n3∧iv=.int .i64 k∧Hid (Twin w wr g g2 b2 gS)) (fun iv _=>n3 - (intOf iv).toNat)
 case atStart=>exact⟨0,by omega,rfl,HI0⟩
 case round =>
  obtain⟨k,hk,rfl,hI⟩:=hrel;clear HI0;rename World=>w_;by_cases hlt:k < n3
  ·obtain⟨X,Y,b,L,s,K,s2,sv,hc_,hr_,hk_,hrk_,hne_,hgb_,hs_,hsa_,y_⟩:=hI.o;have HC:=kp hc_;have HR:=kp hr_;have HK:=kp hk_;have HRK:=kp hrk_;have HNE:=kp hne_;have HBB:=kp hgb_;have HS:=kp hs_;have HSA:=kp hsa_;have HB:=kp y_;clear hI hc_ hr_ hk_ hrk_ hne_ hgb_ hs_ hsa_ y_;obtain⟨ab,aoff,a,rfl,hbl,hak,hcell,hok⟩:=HA.o.at_ hlt;have HAC:=kp (actS_cl hok);have HMA:=kq (∀j u,(actS a)[j]? = some u→w_.cell? ⟨ab,aoff+k*38+j,none⟩=some u) (fun j u hu=>bcell HB.o (hcell j u hu));have HDO:=kp (actS_do a);have HOW:=kp (actS_own hok);have HTM0:=kp (fun j u (hu:a.tv[j]? = some u)=>actS_tx (a:=a) hu);have HIM0:=kp (fun j u (hu:(a.id.map B)[j]? = some u)=>actS_id hok hu);have HTC:=kp hok.cl;have HGR:=kp (fun w' (k:Grow w w')=>hok.great w' k);have HTX:=kp (fun hg=>hok.tx hg);have HIL:=kp hok.1;have HIC:=kp (aidV_cl hok.1);obtain⟨av,hav⟩:=xe (actS a);rw[← hav]at HAC HMA HDO HOW HTM0 HIM0;obtain⟨tv,htv⟩:=xe a.tv;rw[← htv]at HTM0 HTC HGR HTX;obtain⟨t,htt⟩:=xe a.t;rw[← htt]at HGR HTX;obtain⟨gt,hgt⟩:=xe (greatT t);rw[← hgt]at HGR HTX;obtain⟨ow,how⟩:=xe a.own;rw[← how]at HOW;obtain⟨ida,hida⟩:=xe a.id;rw[← hida]at HIM0 HIL HIC;obtain⟨d,hd⟩:=xe a.dof;rw[← hd]at HDO;clear hbl hak hcell hok hav htv htt hgt how hida hd;go_wp2_with (with_reducible first|refine wlm 58 row_acts22 HMA.o HAC.o.len ?_|refine wpl_alloc (o:=⟨some 16,_,_,_,_,_⟩) rfl rfl zero_acts22 ?_);intro w1_ hb1_ hbw1_ hsz1_;have HB1_:=kp (at_mk hb1_ len_acts22);have HBW1_:=kp hbw1_;have HZ1_:=kp hsz1_;clear hb1_ hbw1_ hsz1_;go_wp2_with (with_reducible refine wsb row_acts22 HB1_.o.blk HB1_.o.len HAC.o.len HAC.o.one ?_);intro v_ b_ g_ s_;have y_:=var_grow HBW1_.o HZ1_.o g_;have HX_:=kp (at_mk b_ HAC.o.len);clear b_ g_ s_ HB1_ HBW1_ HZ1_;replace HB:=kp (HB.o.grow' y_);replace HC:=kp (HC.o.grow y_);replace HK:=kp (HK.o.grow y_);replace HS:=kp (HS.o.grow y_);replace HSA:=kp (HSA.o.grow y_);generalize x_:w_.heap.size=gV at HX_ ⊢;clear x_;have HV:=HX_;clear y_ HX_;clear w1_;try clear w_
   rename World=>w_;clear HMA;have HTM:=kq (∀w',At w' gV 59 38 av→∀j u,tv[j]? = some u→w'.cell? ⟨gV,1+j,none⟩=some u) (fun w' h j u hu=>h.blk.at_ (HTM0.o j u hu));have HIM:=kq (∀w',At w' gV 59 38 av→∀j u,(ida.map B)[j]? = some u→w'.cell? ⟨gV,6+j,none⟩=some u) (fun w' h j u hu=>h.blk.at_ (HIM0.o j u hu));clear HTM0 HIM0;have HMT:=kp (HTM.o w_ HV.o);go_wp2_with (with_reducible refine wlm 60 row_tx HMT.o HTC.o.len ?_);refine(HGR.o _ HB.o).mono ?_;clear HMT;rintro e w_ ⟨rfl,y_⟩;replace HB:=kp (HB.o.grow' y_);replace HC:=kp (HC.o.grow y_);replace HK:=kp (HK.o.grow y_);replace HS:=kp (HS.o.grow y_);replace HSA:=kp (HSA.o.grow y_);replace HV:=kp (HV.o.grow y_);clear y_;cases gt with
   | true =>
    go_wp2_with fail;refine(HAW.o _ HB.o).mono ?_;rintro e w_ ⟨rfl,y_⟩;replace HB:=kp (HB.o.grow' y_);clear y_;go_wp2_with fail;go_ret
    exact⟨rfl,HB.o⟩
   | false =>
    have HT:=kp (HTX.o rfl);clear HTX HGR;have HCK:=kp (fun w' (k:Grow w w')=>(HT.o.grow k).rcheck);have HMI:=kp (HIM.o w_ HV.o);obtain⟨xs,hxs⟩:=xe (ida.map B);have HXS:=kp hxs;rw[← hxs]at HMI HIC;clear hxs HIM;go_wp2_with (with_reducible first|refine wlm 65 row_id HMI.o HIC.o.len ?_|refine wpl_alloc (o:=⟨some 17,_,_,_,_,_⟩) rfl rfl zero_id ?_);intro w1_ hb1_ hbw1_ hsz1_;have HB1_:=kp (at_mk hb1_ len_id);have HBW1_:=kp hbw1_;have HZ1_:=kp hsz1_;clear hb1_ hbw1_ hsz1_;go_wp2_with (with_reducible refine wsb row_id HB1_.o.blk HB1_.o.len HIC.o.len HIC.o.one ?_);intro v_ b_ g_ s_;have HG_:=kp HB.o.size;have y_:=var_grow HBW1_.o HZ1_.o g_;have HX_:=kp (at_mk b_ HIC.o.len);clear b_ g_ s_ HB1_ HBW1_ HZ1_;replace HB:=kp (HB.o.grow' y_);replace HC:=kp (HC.o.grow y_);replace HK:=kp (HK.o.grow y_);replace HS:=kp (HS.o.grow y_);replace HSA:=kp (HSA.o.grow y_);replace HV:=kp (HV.o.grow y_);generalize x_:w_.heap.size=gI at HX_ HG_ ⊢;clear x_;have HI:=HX_;clear y_ HX_;clear w1_;try clear w_
    rename World=>w_;have HI_g:=HG_;clear HG_;clear HMI;have HID:=kp (fun hck w' (k:Grow w w')=>(HT.o.grow k).rid hck (tid_dig t));have HTL:=kp (fun hck=>tid_len (t:=t) hck);have HIV:=kp (at_neT HV.o HI.o (by decide));have HIS:=kp (at_neT HS.o HI.o (by decide));have HNI:=kp (HI.o.ne_four HC.o HK.o (by decide) (by decide))
    go_upto_region 15 with fail
    try go_simp
    go_cut [73] from 66 to 73 (fun s73 wr=>∃q:Bool,s73=.bool q∧(q=true→checkT t=0)∧Hid (At wr gI 46 32 xs∧CoinsAt wr g b L s∧LocksAt wr g2 b2 K s2∧At wr gS 37 2 sv∧StAt wr sv X Y∧At wr gV 59 38 av∧Below w.heap.size w wr))
    case first =>
     have HMT:=kp (HTM.o w_ HV.o);have c5:=HV.o.blk.at_ HOW.o;cases ow with
     | true =>
      go_wp2_with (with_reducible first|refine wlm 70 row_tx HMT.o HTC.o.len ?_|refine wlw 70 row_tx HMT.o HTC.o.len ?_);refine(HCK.o _ HB.o).mono ?_;clear HMT c5;rintro e w_ ⟨rfl,y_⟩;replace HB:=kp (HB.o.grow' y_);replace HC:=kp (HC.o.grow y_);replace HK:=kp (HK.o.grow y_);replace HS:=kp (HS.o.grow y_);replace HSA:=kp (HSA.o.grow y_);replace HV:=kp (HV.o.grow y_);replace HI:=kp (HI.o.grow y_);clear y_;go_wp2_with fail
      go_meet
      case rel=>exact⟨_,rfl,fun h=>by simpa using h,kp ⟨HI.o,HC.o,HK.o,HS.o,HSA.o,HV.o,HB.o⟩⟩
     | false =>
      go_wp2_with fail
      go_meet
      case rel=>first|exact⟨(fun h=>by cases h),kp ⟨HI.o,HC.o,HK.o,HS.o,HSA.o,HV.o,HB.o⟩⟩|exact⟨_,rfl,(fun h=>by cases h),kp ⟨HI.o,HC.o,HK.o,HS.o,HSA.o,HV.o,HB.o⟩⟩
    case rest =>
     obtain⟨q,rfl,hq,hI⟩:=hcut;clear HI HC HK HS HSA HV HB;obtain⟨h1,h2,h3,h4,h5,h6,h7⟩:=hI.o;have HI:=kp h1;have HC:=kp h2;have HK:=kp h3;have HS:=kp h4;have HSA:=kp h5;have HV:=kp h6;have HB:=kp h7;have HQ:=kp hq;clear hI h1 h2 h3 h4 h5 h6 h7 hq;rename World=>w_
     go_upto_if 73 with fail
     go_cut [] from 74 to 76 (fun wr=>∃idb:List UInt8,idb.length=32∧Hid (At wr gI 46 32 (idb.map B)∧CoinsAt wr g b L s∧LocksAt wr g2 b2 K s2∧At wr gS 37 2 sv∧StAt wr sv X Y∧At wr gV 59 38 av∧Below w.heap.size w wr))
     case first =>
      cases q with
      | true =>
       have hck:=HQ.o rfl;have HMT:=kp (HTM.o w_ HV.o);have HZI:=kq (Cl 32 ((tidB t).map B)) ⟨by rw[List.length_map];exact HTL.o hck,all_bytes _⟩;have HID2:=kp (HID.o hck);go_wp2_with (with_reducible refine wlm 75 row_tx HMT.o HTC.o.len ?_);refine(HID2.o _ HB.o).mono ?_;clear HMT;rintro e w_ ⟨rfl,y_⟩;replace HB:=kp (HB.o.grow' y_);replace HC:=kp (HC.o.grow y_);replace HK:=kp (HK.o.grow y_);replace HS:=kp (HS.o.grow y_);replace HSA:=kp (HSA.o.grow y_);replace HV:=kp (HV.o.grow y_);replace HI:=kp (HI.o.grow y_);clear y_;go_wp2_with (with_reducible refine wsb row_id HI.o.blk HI.o.len HZI.o.len HZI.o.one ?_);intro v_ b_ g_ s_;have HI_:=kp (at_mk b_ HZI.o.len);have HC_:=kp (HC.o.grown g_ (fun e=>HNI.o (by simp only [Option.some.injEq]at e;rw[← e];simp)) (fun e=>HNI.o (by simp only [Option.some.injEq]at e;rw[← e];simp)));have HK_:=kp (HK.o.grown g_ (fun e=>HNI.o (by simp only [Option.some.injEq]at e;rw[← e];simp)) (fun e=>HNI.o (by simp only [Option.some.injEq]at e;rw[← e];simp)));have HS_:=kp (At.off HS.o g_ HIS.o);have HSA_:=kp (HSA.o.offI (show At w_ gI 46 32 (ida.map B) by rw[← HXS.o];exact HI.o) g_);have HV_:=kp (At.off HV.o g_ HIV.o);have HB_:=kp (put_below HB.o HI_g.o g_);clear b_ g_ s_ HI HC HK HS HSA HV HB;go_wp2_with fail
       go_meet
       case rel=>exact⟨tidB t,HTL.o hck,kp ⟨HI_.o,HC_.o,HK_.o,HS_.o,HSA_.o,HV_.o,HB_.o⟩⟩
      | false =>
       go_wp2_with fail
       go_meet
       case rel=>exact⟨ida,HIL.o,kp ⟨by rw[← HXS.o];exact HI.o,HC.o,HK.o,HS.o,HSA.o,HV.o,HB.o⟩⟩
     case rest =>
      obtain⟨idb,hil,hI⟩:=hcut;clear HI HC HK HS HSA HV HB HID HTL HQ HXS HIL HIC HCK HIS HIV HNI;obtain⟨h1,h2,h3,h4,h5,h6,h7⟩:=hI.o;have HI:=kp h1;have HC:=kp h2;have HK:=kp h3;have HS:=kp h4;have HSA:=kp h5;have HV:=kp h6;have HB:=kp h7;have HIL:=kp hil;clear hI h1 h2 h3 h4 h5 h6 h7 hil;rename World=>w_;have c0:=HV.o.blk.at_ HDO.o
      go_upto_block 2 with fail
      clear c0
      go_cut [18,19,20,21] from 79 to 191 (fun s18 s19 s20 s21 wr=>∃r er:Int,s18=.int .u64 r∧s19=.int .u64 r∧s20=.int .i64 er∧s21=.int .i64 er∧Hid (Twin w wr g g2 b2 gS))
      case first =>
       have HX2:=kq (X.length≤1000000∧Y.length≤1000000) (by have h1:=HR.o.lenX;have h2:=HR.o.len;have h3:=HRK.o.lenX;have h4:=HRK.o.len;omega);have HCX:=kq (CNE X) ⟨_,_,HR.o⟩;have HLY:=kq (LKE Y) ⟨_,_,HRK.o⟩;have HG4:=kq (∀x∈[g,b,g2,b2],w.heap.size≤x) (fun x hx=>by have h1:=HGG.o;have h2:=HBB.o;simp only [List.mem_cons,List.not_mem_nil,or_false]at hx;rcases hx with rfl|rfl|rfl|rfl <;> omega);have HDI:=kq (Dig (idb.map B) idb) ⟨rfl,HIL.o⟩;have HBI:=kp (aidV_cl HIL.o);by_cases hd0:d=0
       ·subst hd0;have HMT:=kp (HTM.o w_ HV.o);go_wp2_with (with_reducible refine wlm 83 row_tx HMT.o HTC.o.len ?_);refine(inputs_any md me w_ (HT.o.grow HB.o) HC.o HR.o HK.o HRK.o (HTT.o _ HB.o)).mono ?_;rintro e v_ ⟨rfl,y_⟩;try clear HMT
        replace HC:=kp (HC.o.grow y_);replace HK:=kp (HK.o.grow y_);replace HS:=kp (HS.o.grow y_);replace HSA:=kp (HSA.o.grow y_);replace HV:=kp (HV.o.grow y_);replace HI:=kp (HI.o.grow y_);replace HB:=kp (HB.o.grow' y_);clear y_;try clear w_
        rename World=>w_;have HMT:=kp (HTM.o w_ HV.o);go_wp2_with (with_reducible first|refine wlb 92 row_state HS.o.blk HS.o.len ?_|refine wlm 94 row_tx HMT.o HTC.o.len ?_);refine(rinputs_st md me w_ (HT.o.grow HB.o) HSA.o HX2.o.1 HX2.o.2).mono ?_;rintro e v_ ⟨rfl,y_⟩;try clear HMT
        have HEND:=kq (Twin w v_ g g2 b2 gS) ⟨X,Y,b,L,s,K,s2,sv,HC.o.grow y_,HR.o,HK.o.grow y_,HRK.o,HNE.o,HBB.o,HS.o.grow y_,HSA.o.grow y_,HB.o.grow' y_⟩;clear y_ HC HK HS HSA HB HV HI;go_wp2_with fail
        go_meet
        case rel=>exact⟨_,_,rfl,rfl,rfl,rfl,HEND⟩
       have hd0f:=eq_false hd0;by_cases hd1:d=1
       ·subst hd1;have HMT:=kp (HTM.o w_ HV.o);go_wp2_with (with_reducible refine wlm 104 row_tx HMT.o HTC.o.len ?_);refine(pay_any md me w_ (TxKeep.of HT.o HB.o (fun x hx=>HG4.o x (by simp only [List.mem_cons,List.not_mem_nil,or_false]at hx ⊢;rcases hx with rfl|rfl <;> simp))) (HTT.o _ HB.o) HC.o HR.o HK.o HRK.o).mono ?_;rintro e v_ ⟨rfl,⟨L4,s4,hc_,hr_⟩,ht_⟩;try clear HMT
        have HTO:=kq (Touched [g,b,g2,b2] w_ v_) (ht_.wide (fun x hx=>by simp only [List.mem_cons,List.not_mem_nil,or_false]at hx ⊢;rcases hx with rfl|rfl <;> simp));have HNV:=kp (HV.o.ne_four HC.o HK.o (by decide) (by decide));have HNS:=kp (HS.o.ne_four HC.o HK.o (by decide) (by decide));have HNI:=kp (HI.o.ne_four HC.o HK.o (by decide) (by decide));have HLT:=kq (g2 < w_.heap.size∧b2 < w_.heap.size∧w.heap.size≤w_.heap.size) ⟨HK.o.ltg,HK.o.ltb,HB.o.size⟩;replace HSA:=kp (HSA.o.touch HC.o HK.o HTO.o);replace HV:=kp (HV.o.touchd HTO.o HNV.o);replace HS:=kp (HS.o.touchd HTO.o HNS.o);replace HI:=kp (HI.o.touchd HTO.o HNI.o);replace HB:=kp (below_touch HB.o HTO.o HG4.o);replace HC:=kp hc_;replace HK:=kp (HK.o.touchd ht_ HNE.o.1 HNE.o.2.1);have HR0:=HR;replace HR:=kp hr_;clear hc_ hr_ ht_;clear HTO HNV HNS HNI HLT;try clear w_
        rename World=>w_;have HMT:=kp (HTM.o w_ HV.o);go_wp2_with (with_reducible first|refine wlb 113 row_state HS.o.blk HS.o.len ?_|refine wlm 115 row_tx HMT.o HTC.o.len ?_);refine(rpay_any md me w_ (HT.o.grow HB.o) HSA.o HX2.o.1 HX2.o.2).mono ?_;rintro e v_ ⟨sv',rfl,hs_,y_⟩;try clear HMT
        have HSN:=kp hs_;have HSC:=kp hs_.cl;replace HC:=kp (HC.o.grow y_);replace HK:=kp (HK.o.grow y_);replace HS:=kp (HS.o.grow y_);replace HB:=kp (HB.o.grow' y_);clear hs_ y_ HSA HV HI;try clear w_
        rename World=>w_;have HNS:=kp (HS.o.ne_four HC.o HK.o (by decide) (by decide));go_wp2_with (with_reducible refine wsb row_state HS.o.blk HS.o.len HSC.o.len HSC.o.one ?_);intro v_ b_ g_ s_;have HEND:=kq (Twin w v_ g g2 b2 gS) ⟨_,_,_,_,_,_,_,_,HC.o.grown g_ (fun e=>HNS.o (by simp only [Option.some.injEq]at e;rw[← e];simp)) (fun e=>HNS.o (by simp only [Option.some.injEq]at e;rw[← e];simp)),HR.o,HK.o.grown g_ (fun e=>HNS.o (by simp only [Option.some.injEq]at e;rw[← e];simp)) (fun e=>HNS.o (by simp only [Option.some.injEq]at e;rw[← e];simp)),HRK.o,HNE.o,HBB.o,at_mk b_ HSC.o.len,HSN.o.off2 HS.o g_,put_below HB.o HS_g.o g_⟩;clear b_ g_ s_ HC HK HS HSN HB HNS;go_wp2_with fail
        go_meet
        case rel=>exact⟨_,_,rfl,rfl,rfl,rfl,HEND⟩
       have hd1f:=eq_false hd1;by_cases hd2:d=2
       ·subst hd2;have HMT:=kp (HTM.o w_ HV.o);go_wp2_with (with_reducible refine wlm 126 row_tx HMT.o HTC.o.len ?_);refine(lock_any md me w_ (TxKeep.of HT.o HB.o (fun x hx=>HG4.o x (by simp only [List.mem_cons,List.not_mem_nil,or_false]at hx ⊢;rcases hx with rfl|rfl|rfl|rfl <;> simp))) (HTT.o _ HB.o) HC.o HR.o HK.o HRK.o HNE.o).mono ?_;rintro e v_ ⟨rfl,⟨L4,s4,hc_,hr_⟩,⟨K4,s5,hk_,hrk_⟩,ht_⟩;try clear HMT
        have HTO:=kq (Touched [g,b,g2,b2] w_ v_) ht_;have HNV:=kp (HV.o.ne_four HC.o HK.o (by decide) (by decide));have HNS:=kp (HS.o.ne_four HC.o HK.o (by decide) (by decide));have HNI:=kp (HI.o.ne_four HC.o HK.o (by decide) (by decide));have HLT:=kq (g2 < w_.heap.size∧b2 < w_.heap.size∧w.heap.size≤w_.heap.size) ⟨HK.o.ltg,HK.o.ltb,HB.o.size⟩;replace HSA:=kp (HSA.o.touch HC.o HK.o HTO.o);replace HV:=kp (HV.o.touchd HTO.o HNV.o);replace HS:=kp (HS.o.touchd HTO.o HNS.o);replace HI:=kp (HI.o.touchd HTO.o HNI.o);replace HB:=kp (below_touch HB.o HTO.o HG4.o);replace HC:=kp hc_;replace HK:=kp hk_;have HRK0:=HRK;replace HR:=kp hr_;replace HRK:=kp hrk_;clear hc_ hr_ hk_ hrk_ ht_;clear HTO HNV HNS HNI HLT;try clear w_
        rename World=>w_;have HMT:=kp (HTM.o w_ HV.o);go_wp2_with (with_reducible first|refine wlb 135 row_state HS.o.blk HS.o.len ?_|refine wlm 137 row_tx HMT.o HTC.o.len ?_);refine(rlock_any md me w_ (HT.o.grow HB.o) HSA.o HX2.o.1 HLY.o).mono ?_;rintro e v_ ⟨sv',rfl,hs_,y_⟩;try clear HMT
        have HSN:=kp hs_;have HSC:=kp hs_.cl;replace HC:=kp (HC.o.grow y_);replace HK:=kp (HK.o.grow y_);replace HS:=kp (HS.o.grow y_);replace HB:=kp (HB.o.grow' y_);clear hs_ y_ HSA HV HI;try clear w_
        rename World=>w_;have HNS:=kp (HS.o.ne_four HC.o HK.o (by decide) (by decide));go_wp2_with (with_reducible refine wsb row_state HS.o.blk HS.o.len HSC.o.len HSC.o.one ?_);intro v_ b_ g_ s_;have HEND:=kq (Twin w v_ g g2 b2 gS) ⟨_,_,_,_,_,_,_,_,HC.o.grown g_ (fun e=>HNS.o (by simp only [Option.some.injEq]at e;rw[← e];simp)) (fun e=>HNS.o (by simp only [Option.some.injEq]at e;rw[← e];simp)),HR.o,HK.o.grown g_ (fun e=>HNS.o (by simp only [Option.some.injEq]at e;rw[← e];simp)) (fun e=>HNS.o (by simp only [Option.some.injEq]at e;rw[← e];simp)),HRK.o,HNE.o,HBB.o,at_mk b_ HSC.o.len,HSN.o.off2 HS.o g_,put_below HB.o HS_g.o g_⟩;clear b_ g_ s_ HC HK HS HSN HB HNS;go_wp2_with fail
        go_meet
        case rel=>exact⟨_,_,rfl,rfl,rfl,rfl,HEND⟩
       have hd2f:=eq_false hd2;by_cases hd3:d=3
       ·subst hd3;have HMT:=kp (HTM.o w_ HV.o);go_wp2_with (with_reducible refine wlm 148 row_tx HMT.o HTC.o.len ?_);refine(mint_any md me w_ (HT.o.grow HB.o) (HTT.o _ HB.o) HC.o HR.o).mono ?_;rintro e v_ ⟨rfl,⟨b4,L4,s4,hc_,hr_,hbb_⟩,ht_⟩;try clear HMT
        have HTO:=kq (Touched [g,b,g2,b2] w_ v_) (ht_.wide (fun x hx=>by simp only [List.mem_cons,List.not_mem_nil,or_false]at hx ⊢;rcases hx with rfl <;> simp));have HNV:=kp (HV.o.ne_four HC.o HK.o (by decide) (by decide));have HNS:=kp (HS.o.ne_four HC.o HK.o (by decide) (by decide));have HNI:=kp (HI.o.ne_four HC.o HK.o (by decide) (by decide));have HLT:=kq (g2 < w_.heap.size∧b2 < w_.heap.size∧w.heap.size≤w_.heap.size) ⟨HK.o.ltg,HK.o.ltb,HB.o.size⟩;replace HSA:=kp (HSA.o.touch HC.o HK.o HTO.o);replace HV:=kp (HV.o.touchd HTO.o HNV.o);replace HS:=kp (HS.o.touchd HTO.o HNS.o);replace HI:=kp (HI.o.touchd HTO.o HNI.o);replace HB:=kp (below_touch HB.o HTO.o HG4.o);have HNE2:=kp (ne_new HNE.o hbb_ ⟨HLT.o.1,HLT.o.2.1⟩);have HBB2:=kq (w.heap.size≤b4) (by have h1:=HBB.o;have h2:=HLT.o.2.2;rcases hbb_ with h|h <;> omega);replace HC:=kp hc_;replace HK:=kp (HK.o.touchd ht_ (fun h=>HNE.o.1 (by simp only [List.mem_singleton]at h;rw[h];simp)) (fun h=>HNE.o.2.1 (by simp only [List.mem_singleton]at h;rw[h];simp)));replace HNE:=HNE2;replace HBB:=HBB2;have HR0:=HR;replace HR:=kp hr_;clear hc_ hr_ ht_ hbb_ HNE2 HBB2;clear HTO HNV HNS HNI HLT;try clear w_
        rename World=>w_;have HMT:=kp (HTM.o w_ HV.o);go_wp2_with (with_reducible first|refine wlb 156 row_state HS.o.blk HS.o.len ?_|refine wlm 158 row_tx HMT.o HTC.o.len ?_);refine(rmint_any md me w_ (HT.o.grow HB.o) HSA.o HCX.o).mono ?_;rintro e v_ ⟨sv',rfl,hs_,y_⟩;try clear HMT
        have HSN:=kp hs_;have HSC:=kp hs_.cl;replace HC:=kp (HC.o.grow y_);replace HK:=kp (HK.o.grow y_);replace HS:=kp (HS.o.grow y_);replace HB:=kp (HB.o.grow' y_);clear hs_ y_ HSA HV HI;try clear w_
        rename World=>w_;have HNS:=kp (HS.o.ne_four HC.o HK.o (by decide) (by decide));go_wp2_with (with_reducible refine wsb row_state HS.o.blk HS.o.len HSC.o.len HSC.o.one ?_);intro v_ b_ g_ s_;have HEND:=kq (Twin w v_ g g2 b2 gS) ⟨_,_,_,_,_,_,_,_,HC.o.grown g_ (fun e=>HNS.o (by simp only [Option.some.injEq]at e;rw[← e];simp)) (fun e=>HNS.o (by simp only [Option.some.injEq]at e;rw[← e];simp)),HR.o,HK.o.grown g_ (fun e=>HNS.o (by simp only [Option.some.injEq]at e;rw[← e];simp)) (fun e=>HNS.o (by simp only [Option.some.injEq]at e;rw[← e];simp)),HRK.o,HNE.o,HBB.o,at_mk b_ HSC.o.len,HSN.o.off2 HS.o g_,put_below HB.o HS_g.o g_⟩;clear b_ g_ s_ HC HK HS HSN HB HNS;go_wp2_with fail
        go_meet
        case rel=>exact⟨_,_,rfl,rfl,rfl,rfl,HEND⟩
       have hd3f:=eq_false hd3;by_cases hd4:d=4
       ·subst hd4;go_wp2_with (with_reducible refine wlb 167 row_id HI.o.blk HI.o.len ?_);refine(free_any HIL.o w_ HK.o HRK.o).mono ?_;rintro e v_ ⟨rfl,⟨K4,s5,hk_,hrk_⟩,ht_⟩;try clear HMT
        have HTO:=kq (Touched [g,b,g2,b2] w_ v_) (ht_.wide (fun x hx=>by simp only [List.mem_cons,List.not_mem_nil,or_false]at hx ⊢;rcases hx with rfl|rfl <;> simp));have HNV:=kp (HV.o.ne_four HC.o HK.o (by decide) (by decide));have HNS:=kp (HS.o.ne_four HC.o HK.o (by decide) (by decide));have HNI:=kp (HI.o.ne_four HC.o HK.o (by decide) (by decide));have HLT:=kq (g2 < w_.heap.size∧b2 < w_.heap.size∧w.heap.size≤w_.heap.size) ⟨HK.o.ltg,HK.o.ltb,HB.o.size⟩;replace HSA:=kp (HSA.o.touch HC.o HK.o HTO.o);replace HV:=kp (HV.o.touchd HTO.o HNV.o);replace HS:=kp (HS.o.touchd HTO.o HNS.o);replace HI:=kp (HI.o.touchd HTO.o HNI.o);replace HB:=kp (below_touch HB.o HTO.o HG4.o);replace HC:=kp (HC.o.touchd ht_ HNE.o.2.2.1 HNE.o.2.2.2);replace HK:=kp hk_;have HRK0:=HRK;replace HRK:=kp hrk_;clear hk_ hrk_ ht_;clear HTO HNV HNS HNI HLT;try clear w_
        rename World=>w_;go_wp2_with (with_reducible first|refine wlb 171 row_state HS.o.blk HS.o.len ?_|refine wlb 172 row_id HI.o.blk HI.o.len ?_);refine(rfree22_any HDI.o w_ HSA.o HX2.o.2).mono ?_;rintro e v_ ⟨sv',rfl,hs_,y_⟩;try clear HMT
        have HSN:=kp hs_;have HSC:=kp hs_.cl;replace HC:=kp (HC.o.grow y_);replace HK:=kp (HK.o.grow y_);replace HS:=kp (HS.o.grow y_);replace HB:=kp (HB.o.grow' y_);clear hs_ y_ HSA HV HI;try clear w_
        rename World=>w_;have HNS:=kp (HS.o.ne_four HC.o HK.o (by decide) (by decide));go_wp2_with (with_reducible refine wsb row_state HS.o.blk HS.o.len HSC.o.len HSC.o.one ?_);intro v_ b_ g_ s_;have HEND:=kq (Twin w v_ g g2 b2 gS) ⟨_,_,_,_,_,_,_,_,HC.o.grown g_ (fun e=>HNS.o (by simp only [Option.some.injEq]at e;rw[← e];simp)) (fun e=>HNS.o (by simp only [Option.some.injEq]at e;rw[← e];simp)),HR.o,HK.o.grown g_ (fun e=>HNS.o (by simp only [Option.some.injEq]at e;rw[← e];simp)) (fun e=>HNS.o (by simp only [Option.some.injEq]at e;rw[← e];simp)),HRK.o,HNE.o,HBB.o,at_mk b_ HSC.o.len,HSN.o.off2 HS.o g_,put_below HB.o HS_g.o g_⟩;clear b_ g_ s_ HC HK HS HSN HB HNS;go_wp2_with fail
        go_meet
        case rel=>exact⟨_,_,rfl,rfl,rfl,rfl,HEND⟩
       have hd4f:=eq_false hd4;by_cases hd5:d=5
       ·subst hd5;go_wp2_with (with_reducible refine wlb 179 row_id HI.o.blk HI.o.len ?_);refine(sback_any HIL.o w_ HC.o HR.o HK.o HRK.o HNE.o).mono ?_;rintro e v_ ⟨rfl,⟨b4,L4,s4,hc_,hr_,hbb_⟩,⟨K4,s5,hk_,hrk_⟩,ht_⟩;try clear HMT
        have HTO:=kq (Touched [g,b,g2,b2] w_ v_) (ht_.wide (fun x hx=>by simp only [List.mem_cons,List.not_mem_nil,or_false]at hx ⊢;rcases hx with rfl|rfl|rfl <;> simp));have HNV:=kp (HV.o.ne_four HC.o HK.o (by decide) (by decide));have HNS:=kp (HS.o.ne_four HC.o HK.o (by decide) (by decide));have HNI:=kp (HI.o.ne_four HC.o HK.o (by decide) (by decide));have HLT:=kq (g2 < w_.heap.size∧b2 < w_.heap.size∧w.heap.size≤w_.heap.size) ⟨HK.o.ltg,HK.o.ltb,HB.o.size⟩;replace HSA:=kp (HSA.o.touch HC.o HK.o HTO.o);replace HV:=kp (HV.o.touchd HTO.o HNV.o);replace HS:=kp (HS.o.touchd HTO.o HNS.o);replace HI:=kp (HI.o.touchd HTO.o HNI.o);replace HB:=kp (below_touch HB.o HTO.o HG4.o);have HNE2:=kp (ne_new HNE.o hbb_ ⟨HLT.o.1,HLT.o.2.1⟩);have HBB2:=kq (w.heap.size≤b4) (by have h1:=HBB.o;have h2:=HLT.o.2.2;rcases hbb_ with h|h <;> omega);replace HC:=kp hc_;replace HK:=kp hk_;replace HNE:=HNE2;replace HBB:=HBB2;have HR0:=HR;have HRK0:=HRK;replace HR:=kp hr_;replace HRK:=kp hrk_;clear hc_ hr_ hk_ hrk_ ht_ hbb_ HNE2 HBB2;clear HTO HNV HNS HNI HLT;try clear w_
        rename World=>w_;go_wp2_with (with_reducible first|refine wlb 186 row_state HS.o.blk HS.o.len ?_|refine wlb 187 row_id HI.o.blk HI.o.len ?_);refine(rback22_any HDI.o w_ HSA.o HCX.o HX2.o.2).mono ?_;rintro e v_ ⟨sv',rfl,hs_,y_⟩;try clear HMT
        have HSN:=kp hs_;have HSC:=kp hs_.cl;replace HC:=kp (HC.o.grow y_);replace HK:=kp (HK.o.grow y_);replace HS:=kp (HS.o.grow y_);replace HB:=kp (HB.o.grow' y_);clear hs_ y_ HSA HV HI;try clear w_
        rename World=>w_;have HNS:=kp (HS.o.ne_four HC.o HK.o (by decide) (by decide));go_wp2_with (with_reducible refine wsb row_state HS.o.blk HS.o.len HSC.o.len HSC.o.one ?_);intro v_ b_ g_ s_;have HEND:=kq (Twin w v_ g g2 b2 gS) ⟨_,_,_,_,_,_,_,_,HC.o.grown g_ (fun e=>HNS.o (by simp only [Option.some.injEq]at e;rw[← e];simp)) (fun e=>HNS.o (by simp only [Option.some.injEq]at e;rw[← e];simp)),HR.o,HK.o.grown g_ (fun e=>HNS.o (by simp only [Option.some.injEq]at e;rw[← e];simp)) (fun e=>HNS.o (by simp only [Option.some.injEq]at e;rw[← e];simp)),HRK.o,HNE.o,HBB.o,at_mk b_ HSC.o.len,HSN.o.off2 HS.o g_,put_below HB.o HS_g.o g_⟩;clear b_ g_ s_ HC HK HS HSN HB HNS;go_wp2_with fail
        go_meet
        case rel=>exact⟨_,_,rfl,rfl,rfl,rfl,HEND⟩
       have hd5f:=eq_false hd5;have HEND:=kq (Twin w w_ g g2 b2 gS) ⟨X,Y,b,L,s,K,s2,sv,HC.o,HR.o,HK.o,HRK.o,HNE.o,HBB.o,HS.o,HSA.o,HB.o⟩;clear HC HK HS HSA HB HV HI;go_wp2_with fail
       go_meet
       case rel=>exact⟨_,_,rfl,rfl,rfl,rfl,HEND⟩
      case rest =>
       obtain⟨r,er,rfl,rfl,rfl,rfl,hI⟩:=hcut;clear HI HC HK HS HSA HV HB HR HRK HNE HBB;obtain⟨X,Y,b,L,s,K,s2,sv,hc_,hr_,hk_,hrk_,hne_,hgb_,hs_,hsa_,y_⟩:=hI.o;have HC:=kp hc_;have HR:=kp hr_;have HK:=kp hk_;have HRK:=kp hrk_;have HNE:=kp hne_;have HBB:=kp hgb_;have HS:=kp hs_;have HSA:=kp hsa_;have HB:=kp y_;clear hI hc_ hr_ hk_ hrk_ hne_ hgb_ hs_ hsa_ y_;rename World=>w_
       have HIQ:=kp (show Calls Tryz.prog 21 #[.pointer (some ⟨g,0,none⟩),.pointer (some ⟨g2,0,none⟩),.agg sv.toArray] w_ fun e w'=>e=.returned (.bool true)∧Grow w_ w' by
        obtain⟨A7,n7,c7,A8,n8,c8,rfl,hx,hy⟩:=HSA.o
        exact is22_any w_ HC.o HR.o HK.o HRK.o hx hy)
       have z1:(r != r)=false:=by simp
       have z2:(er != er)=false:=by simp
       go_wp2_with (first|(with_reducible refine wlb 203 row_state HS.o.blk HS.o.len ?_)|(with_reducible refine wpl_loadw (o:=⟨some 203,_,_,_,_,_⟩) (by first|rfl|(go_simp;done)|fail) rfl row_state HS.o.blk rfl HS.o.len ?_));refine HIQ.o.mono ?_;clear HIQ;rintro e w_ ⟨rfl,y_⟩;replace HB:=kp (HB.o.grow' y_);replace HC:=kp (HC.o.grow y_);replace HK:=kp (HK.o.grow y_);replace HS:=kp (HS.o.grow y_);replace HSA:=kp (HSA.o.grow y_);clear y_;have HEND:=kq (Twin w w_ g g2 b2 gS) ⟨X,Y,b,L,s,K,s2,sv,HC.o,HR.o,HK.o,HRK.o,HNE.o,HBB.o,HS.o,HSA.o,HB.o⟩;clear HC HR HK HRK HNE HBB HS HSA HB;go_wp2_with fail;go_roundw
       case rel=>exact⟨k+1,by omega,by go_num,HEND⟩
       case measure=>simp [intOf];omega
  ·obtain rfl:k=n3:=by omega
   obtain⟨X,Y,b,L,s,K,s2,sv,-,-,-,-,-,-,-,-,y_⟩:=hI.o;have HB:=kp y_;clear y_ hI;go_wp2_with fail;refine(HAW.o _ HB.o).mono ?_;rintro e w_ ⟨rfl,y_⟩;replace HB:=kp (HB.o.grow' y_);clear y_;go_wp2_with fail;go_ret
   exact⟨rfl,HB.o⟩
end Go.Proofs.YtnnjjbkdjkjnpaaGreatDoor
namespace Go.Proofs.YtnnjjbkdjkjnpaaGreatDoor.lawSpendPlays
open Go.ChangeShapes Go.WideShapes Go.ChangeAt Go.RowKit
open Go.ChangeMaps (open_string shut_string)
theorem laidOut:laidOutB Tryz.prog=true:=laid_out
theorem contract (H : Type) (enc : TypeId × Value → H) (W : World) (base : Nat) (args : Array Value) (ds gs : List (DataW H)) (before : List MemPlace)
  (hval0:∀(j:Nat) t v,Tryz.f6.params[j]? = some t→args[j]? = some v→Value.okWide Tryz.prog W .any base t v)
  (hW:DataW.Whole enc Tryz.prog Tryz.f6.params.toList Rows.spendPlaysSpec.vars false W args.toList ds gs before) (hL:laidMetH Tryz.prog Rows.spendPlaysRow.laid W) :
  Calls Tryz.prog 6 args W fun e W'=>∃v,e=.returned v∧Rows.spendPlaysSpec.post enc Tryz.prog Tryz.f6 false true false false W args v W':=by
 have hval:∀(j:Nat) t v,Tryz.f6.params[j]? = some t→args[j]? = some v→Value.okWide Tryz.prog W .any base t v:=hval0;have hW':=hW;obtain⟨p,q,hA0,hV,rfl,hfz,hnd⟩:=hW;have hA:DataW.TrodAll enc Tryz.prog W 0 (fun _=>true) true Tryz.f6.params.toList args.toList ds p:=hA0;rw[Tryz.params6]at hA hval;obtain⟨v0,vs0,d0,ds0,p0,q0,hargs,rfl,rfl,h0,r0⟩:=trodAll_cons hA;obtain⟨v1,vs1,d1,ds1,p1,q1,rfl,rfl,rfl,h1,r1⟩:=trodAll_cons r0;obtain⟨v2,vs2,d2,ds2,p2,q2,rfl,rfl,rfl,h2,r2⟩:=trodAll_cons r1;obtain⟨v3,vs3,d3,ds3,p3,q3,rfl,rfl,rfl,h3,r3⟩:=trodAll_cons r2;obtain⟨v4,vs4,d4,ds4,p4,q4,rfl,rfl,rfl,h4,r4⟩:=trodAll_cons r3;obtain⟨rfl,rfl,rfl⟩:=trodAll_nil r4;obtain rfl:args=#[v0,v1,v2,v3,v4]:=by cases args;simp_all
 obtain⟨rfl,rfl⟩:=trodVars_none hV;have k0:=h0;have lt0:∀x∈p0,x.block < W.heap.size:=by obtain⟨m,hm⟩:=k0;exact DataW.trod_lt m _ _ _ hm
 obtain⟨x0_0,x0_1,x0_2,x0_3,rfl,f0_0,f0_1⟩:=open_held (hval 0 22 v0 rfl rfl) h0;have k1:=h1;have lt1:∀x∈p1,x.block < W.heap.size:=by obtain⟨m,hm⟩:=k1;exact DataW.trod_lt m _ _ _ hm
 obtain⟨x1_0,x1_1,x1_2,x1_3,rfl,f1_0,f1_1⟩:=open_held (hval 1 22 v1 rfl rfl) h1;have k2:=h2;have lt2:∀x∈p2,x.block < W.heap.size:=by obtain⟨m,hm⟩:=k2;exact DataW.trod_lt m _ _ _ hm
 obtain⟨a2,rfl,rfl,rfl,w2⟩:=open_int Tryz.underlying5 (hval 2 5 v2 rfl rfl) h2;have k3:=h3;have lt3:∀x∈p3,x.block < W.heap.size:=by obtain⟨m,hm⟩:=k3;exact DataW.trod_lt m _ _ _ hm
 obtain⟨a3,rfl,rfl,rfl,w3⟩:=open_int Tryz.underlying3 (hval 3 3 v3 rfl rfl) h3;have k4:=h4;have lt4:∀x∈p4,x.block < W.heap.size:=by obtain⟨m,hm⟩:=k4;exact DataW.trod_lt m _ _ _ hm
 obtain⟨x4_0,x4_1,x4_2,x4_3,rfl,f4_0,f4_1⟩:=open_acts22 (hval 4 57 v4 rfl rfl) h4;have htabs:Tabs W:=tabs_of hL;clear hA0 hval0 hL;refine(spendPlays_walk x0_0 x0_1 x0_2 x0_3 x1_0 x1_1 x1_2 x1_3 a2 a3 x4_0 x4_1 x4_2 x4_3 W f0_0 f0_1 f1_0 f1_1 w2 w3 f4_0 f4_1 htabs).mono fun e W' ⟨he,bel⟩=>?_
 subst he;exact⟨_,rfl,_,_,_,[],_,[],hW',trodAll_mk1 (shut_bool Tryz.underlying4 _),(trodAll_cons_mk (Below.trod laidOut (by kernel_rfl) (of_decide_eq_true (by kernel_rfl)) k0 bel lt0) (trodAll_cons_mk (Below.trod laidOut (by kernel_rfl) (of_decide_eq_true (by kernel_rfl)) k1 bel lt1) (trodAll_cons_mk (Below.trod laidOut (by kernel_rfl) (of_decide_eq_true (by kernel_rfl)) k2 bel lt2) (trodAll_cons_mk (Below.trod laidOut (by kernel_rfl) (of_decide_eq_true (by kernel_rfl)) k3 bel lt3) (trodAll_cons_mk (Below.trod laidOut (by kernel_rfl) (of_decide_eq_true (by kernel_rfl)) k4 bel lt4) trodAll_mk0))))),rfl,bel.frame _,fun h=>by cases h⟩
theorem laid_met(os:Os):laidMet Tryz.prog Rows.spendPlaysRow.laid ((laidWorld os).forCall (fun _ _=>0) ⟨#[],#[.slice none 0 0,.slice none 0 0,.int .u8 0,.int .i64 0,.slice none 0 0],[]⟩).memory:=
 laidMet_of_run' 8 (by kernel_rfl) (by kernel_rfl)
theorem reads(os:Os){H:Type}(enc:TypeId×Value→H):∃ds places,DataW.whole enc Tryz.prog ((laidWorld os).forCall (fun _ _=>0) ⟨#[],#[.slice none 0 0,.slice none 0 0,.int .u8 0,.int .i64 0,.slice none 0 0],[]⟩).memory Tryz.f6.params.toList Rows.spendPlaysSpec.vars false #[.slice none 0 0,.slice none 0 0,.int .u8 0,.int .i64 0,.slice none 0 0].toList 8=some (ds,[],places):=by
 obtain⟨⟨ds,gs,pl⟩,h,e⟩:=Option.map_eq_some_iff.1 (show(DataW.whole enc Tryz.prog ((laidWorld os).forCall (fun _ _=>0) ⟨#[],#[.slice none 0 0,.slice none 0 0,.int .u8 0,.int .i64 0,.slice none 0 0],[]⟩).memory Tryz.f6.params.toList Rows.spendPlaysSpec.vars false #[.slice none 0 0,.slice none 0 0,.int .u8 0,.int .i64 0,.slice none 0 0].toList 8).map (fun x=>x.2.1)=some [] by kernel_rfl);simp only at e;subst e;exact⟨ds,pl,h⟩
theorem lifted (os : Os) (started : os.Started) (H : Type) (enc : TypeId × Value → H) (F : Stop.Interp) :
  ReturnsInHanded {} Tryz.checked os 6 .any ((OpenSpec.ofChange Rows.spendPlaysSpec).preRow enc Tryz.prog Tryz.f6 Rows.spendPlaysRow.domain false Rows.spendPlaysRow.laid) (((OpenSpec.ofChange Rows.spendPlaysSpec).at F).post enc Tryz.prog Tryz.f6 false true false false):=by
 obtain⟨ds,places,hx⟩:=reads os enc
 refine returnsInHanded_of_row (C:=Tryz.checked) (s:=OpenSpec.ofChange Rows.spendPlaysSpec) own_knob started (by kernel_rfl) Tryz.func6
  (witness_row_at (enc := enc) (C := Tryz.checked) false (laidWorld os) #[.slice none 0 0, .slice none 0 0, .int .u8 0, .int .i64 0, .slice none 0 0] rfl (by kernel_rfl) (by kernel_rfl) (by kernel_rfl)
    (OpenSpec.preRow_of_cond 8 hx (by kernel_rfl) (fun k hk=>by cases hk) (by kernel_rfl) (laid_met os))) ?_
 intro W base args ds gs before hval hW _ _ _ hL _ _;exact contract H enc W base args ds gs before hval hW hL
theorem said:Rows.SpendPlaysSaid:=
 OpenClaim.holds_of_cond 6 Tryz.f6 rfl rfl rfl rfl rfl rfl rfl ⟨rfl,rfl,rfl,rfl,rfl⟩ rfl rfl rfl rfl rfl (by kernel_rfl) Tryz.func6 (by kernel_rfl)
  (of_decide_eq_true (by kernel_rfl)) (by unfold Func.isWrapper;first|(rw[if_pos (by decide +kernel)];kernel_rfl)|(rw[if_neg (by decide +kernel)];exact⟨rfl,rfl⟩))
  (fun os started H enc _ F=>by rw[OpenClaim.pre_eq_preRow];exact lifted os started H enc F)
theorem plain (f : FuncId) (fn : Func) (hf : Tryz.pinned.checked.prog.funcNamed "seisin/seisinlaw22.SpendPlays" = some f) (hfn : Tryz.pinned.checked.prog.funcs[f]? = some fn) :
  true=Tryz.pinned.checked.prog.looks []∧∀(j:Nat) t,fn.params[j]? = some t→Tryz.pinned.checked.prog.wantsStandIn t=false:=by
 obtain rfl : f = 6 := Option.some.inj ((show Tryz.prog.funcNamed "seisin/seisinlaw22.SpendPlays" = some 6 by kernel_rfl).symm.trans hf) |>.symm
 obtain rfl:fn=Tryz.f6:=(Option.some.inj (Tryz.func6.symm.trans hfn)).symm;refine⟨by kernel_rfl,fun j t ht=>?_⟩;rw[Tryz.params6]at ht;have hm:t∈[22,22,5,3,57]:=by simpa using Array.mem_of_getElem? ht
 have hall:([22,22,5,3,57].all fun u=>!Tryz.prog.wantsStandIn u)=true:=by kernel_rfl
 exact(show Tryz.prog.wantsStandIn t=false by simpa using List.all_eq_true.1 hall t hm)
theorem proved:Rows.SpendPlaysCardSaid:=
 Claim7.holds_tied_plain_at .later [] _ _ _ _ said (fun _ h=>by cases h) (by kernel_rfl) (fun _ h=>by cases h) spendPlays_row_tie rfl ⟨rfl,rfl⟩ (by kernel_rfl) rfl plain (by kernel_rfl)
#print axioms proved
end Go.Proofs.YtnnjjbkdjkjnpaaGreatDoor.lawSpendPlays

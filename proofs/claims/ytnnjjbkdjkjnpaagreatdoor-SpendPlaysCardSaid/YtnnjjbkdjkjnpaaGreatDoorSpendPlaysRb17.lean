/- Contracts of tx.Size,tx.Owner,and the document's Owner;the example of seisinlaw07. -/
import Derived.Test.YtnnjjbkdjkjnpaaGreatDoorSpendPlaysRb16
import Derived.Shelf.SlMaps.Clone
set_option linter.unusedSimpArgs false
set_option linter.unusedVariables false
set_option maxRecDepth 100000
set_option maxHeartbeats 16000000
namespace Go.Proofs.YtnnjjbkdjkjnpaaGreatDoor
open Go.RowKit Go.Shelf
theorem towner_any {A : Option Addr} {n c : Nat} {bs : List UInt8} {zs : List Value} (hz : Dig zs (ownerB bs)) (w : World) (hs : Sl w w.heap.size 1 A n (bs.map B)) (hc : n ≤ c) (hn : n ≤ 100000) (ht : Tabs w) :
  Calls Tryz.prog 79 #[.slice A n c] w fun e w'=>e=.returned (.agg zs.toArray)∧Grow w w':=by
 have HS:=kp hs;have HT0:=kp ht;have HZ:=kp hz;have hbl:bs.length=n:=by have:=hs.len;simpa using this
 subst hbl;have HC:=kp hc;obtain⟨w_,hw⟩:=xe w;have HB:=kq (Below w.heap.size w w_) (by rw[hw];exact Below.refl _ _)
 suffices H:Calls Tryz.prog 79 #[.slice A bs.length c] w_ fun e w'=>e=.returned (.agg zs.toArray)∧Grow w w' by rw[hw]at H;exact H
 clear hw hs ht hz hc
 go_enter Tryz.func79,Tryz.ntmps79
 go_wp2_with (with_reducible first|refine wpl_alloc (o:=⟨some 2,_,_,_,_,_⟩) rfl rfl zero_id ?_);intro v_ b_ y_ s_;have HX_:=kp (at_mk b_ len_id);clear b_ s_;have HG_:=kp HB.o.size;replace HB:=kp (HB.o.grow' y_);generalize x_:w_.heap.size=g2 at HX_ HG_ ⊢;clear x_;have HV_g:=HG_;clear HG_;have HV:=HX_;clear y_ HX_;try clear w_
 rename World=>w_;go_wp2_with fail;generalize hw_:World.alloc w_ _=w4;obtain⟨hX,hb,hs⟩:=alloc_eq hw_;have HX:=kp hX;have HV4:=kp (HV.o.grow hb);have HB4:=kp (HB.o.grow' hb);clear hX hb hs hw_ HV HB;refine(punder_any (m:=9) HZ.o (parts1 HX.o (HS.o.grow HB4.o) HC.o) (by omega) (fun l hl=>by simp only [List.mem_cons,List.not_mem_nil,or_false]at hl;rw[hl];omega) (HT0.o.grow HB4.o)).mono ?_;rintro e w5 ⟨rfl,hb5⟩;have HV5:=kp (HV4.o.grow hb5);have HB5:=kp (HB4.o.grow' hb5);clear hb5 HV4 HB4;go_wp2_with (with_reducible refine wsb row_id HV5.o.blk HV5.o.len HZ.o.len HZ.o.one ?_);intro w6 hb6 hg6 hs6;have HB6:=kp hb6;have HBB:=kp (put_below HB5.o HV_g.o hg6);clear hb6 hg6 hs6;go_wp2_with fail;refine ret_cell rfl row_id HB6.o rfl HZ.o.len rfl ?_;exact⟨rfl,HBB.o⟩
theorem rtowner_any {A : Option Addr} {n c : Nat} {bs : List UInt8} {zs : List Value} (hz : Dig zs (ownerB bs)) (w : World) (hs : Sl w w.heap.size 1 A n (bs.map B)) (hn : n ≤ 100000) :
  Calls Tryz.prog 33 #[.slice A n c] w fun e w'=>e=.returned (.agg zs.toArray)∧Grow w w':=by
 have HS:=kp hs;have HZ:=kp hz;have hbl:bs.length=n:=by have:=hs.len;simpa using this
 have HN:=kp hbl;obtain⟨w_,hw⟩:=xe w;have HB:=kq (Below w.heap.size w w_) (by rw[hw];exact Below.refl _ _)
 suffices H:Calls Tryz.prog 33 #[.slice A n c] w_ fun e w'=>e=.returned (.agg zs.toArray)∧Grow w w' by rw[hw]at H;exact H
 clear hw hs hz hbl
 go_enter Tryz.func33,Tryz.ntmps33
 go_wp2_with (with_reducible first|refine wpl_alloc (o:=⟨some 2,_,_,_,_,_⟩) rfl rfl zero_id ?_);intro v_ b_ y_ s_;have HX_:=kp (at_mk b_ len_id);clear b_ s_;have HG_:=kp HB.o.size;replace HB:=kp (HB.o.grow' y_);generalize x_:w_.heap.size=g2 at HX_ HG_ ⊢;clear x_;have HV_g:=HG_;clear HG_;have HV:=HX_;clear y_ HX_;try clear w_
 rename World=>w_;go_wp2_with fail;generalize hw_:World.alloc w_ _=w1_;obtain⟨hX_,hb1,hs_⟩:=alloc_eq hw_;have HO:=kp (own_blk (base:=w_.heap.size) hX_ (n:=1) rfl (Nat.le_refl _) (by simp [maxLen]));have HG1:=kp hb1;clear hw_ hX_ hb1 hs_;refine(long_any _ _ _ bs _ (HS.o.grow (HB.o.grow' HG1.o)) (by omega)).mono ?_;rintro e w3_ ⟨A5,c5,rfl,ho_,y_⟩;have HLG:=kp (Sl.of_own ho_);have HA:=kp (all_bytes (beBytes n 4++bs));have HO3:=kp (own_below HO.o y_);have HG3:=kp (Grow.trans _ _ _ HG1.o y_);clear ho_ y_ HO HG1;go_wp2_with (at_builtin;refine wpl_apps rfl rfl el_u8 HO3.o rfl HLG.o rfl HA.o (by omega) (by omega) HG3.o.size ?_);intro A6 c6 w4 ho hg hA;have hb4:Grow w_ w4:=app_below HG3.o HO3.o hg
 have HX:=kp (show Sl w4 w4.heap.size 1 A6 (1+(4+n)) ((underB 9 [bs]).map B) by
  have h:=Sl.of_own ho;rw[under_eq 9 bs n HN.o];try simp only [List.map_append,List.map_cons,List.map_nil,List.cons_append,List.nil_append,List.append_assoc]at h
  simp only [List.map_append,List.map_cons,List.map_nil,List.cons_append,List.nil_append,List.append_assoc]
  exact h)
 have HB_:=kp (HB.o.grow' hb4);have HV_:=kp (HV.o.grow hb4);clear HB HV ho hg hA HO3 HG3 HLG HA hb4;go_wp2_with fail;refine(dof_any _ _ _ HZ.o _ HX.o (by omega)).mono ?_;rintro e w5 ⟨rfl,hb5⟩;have HV5:=kp (HV_.o.grow hb5);have HB5:=kp (HB_.o.grow' hb5);clear hb5 HV_ HB_;go_wp2_with (with_reducible refine wsb row_id HV5.o.blk HV5.o.len HZ.o.len HZ.o.one ?_);intro w6 hb6 hg6 hs6;have HB6:=kp hb6;have HBB:=kp (put_below HB5.o HV_g.o hg6);clear hb6 hg6 hs6;go_wp2_with fail;refine ret_cell rfl row_id HB6.o rfl HZ.o.len rfl ?_;exact⟨rfl,HBB.o⟩
theorem longI_of{t:Txn}(h:checkT t=0):longT t=false:=by
 unfold checkT at h;cases hl:longT t with
 | true=>rw[hl,if_pos rfl]at h;cases h
 | false=>rfl
theorem right_of{t:Txn}(h:checkT t=0):t.ins.length≤16∧t.outs.length≤16∧(0≤t.expiry∧t.expiry≤1099511627776)∧∀i∈t.ins,i.secret.length≤64∧0≤i.index∧i.index≤15:=by
 have h1:=longI_of h;unfold longT shortT at h1;simp only [Bool.or_eq_false_iff,Bool.not_eq_false',Bool.and_eq_true,inB_iff]at h1;obtain⟨⟨⟨h2,h3⟩,h4⟩,h5⟩:=h1;refine⟨by omega,by omega,h4,fun i hi=>?_⟩;have h6:=List.any_eq_false.1 h5 i hi;unfold longI at h6;simp only [Bool.or_eq_true,decide_eq_true_eq,Bool.not_eq_true',not_or,Bool.not_eq_false,inB_iff]at h6;omega
theorem putI_le{i:Inp}(h1:i.tx.length=32)(h2:i.secret.length≤64)(h3:0≤i.index∧i.index≤15)(h4:U64 i.amount):(putI i).length≤123:=by
 have e1:=numB_le (n:=i.index.toNat) (by omega);have e2:=numB_le (n:=i.amount.toNat) (by have:=h4.2;omega);have e3:=numB_le (n:=i.secret.length) (by omega);unfold putI;simp only [List.length_append];omega
theorem putO_le{o:Outp}(h:o.ok):(putO o).length≤41:=by
 have e2:=numB_le (n:=o.amount.toNat) (by have:=h.2.2;omega);unfold putO;simp only [List.length_append,h.1];omega
theorem flat_le{α:Type}{f:α→List UInt8}{m:Nat}:∀{l:List α},(∀x∈l,(f x).length≤m)→(l.flatMap f).length≤l.length*m
 |[],_=>by simp
 | x::l,h=>by
  have:=flat_le (f:=f) (m:=m) (l:=l) (fun y hy=>h y (List.mem_cons_of_mem _ hy));have h2:=h x (List.mem_cons_self ..);rw[List.flatMap_cons,List.length_append,List.length_cons,Nat.add_mul];omega
theorem putTB_le{t:Txn}(hk:t.ok)(h:checkT t=0):(putTB t).length≤3000:=by
 obtain⟨h1,h2,h3,h4⟩:=right_of h;have e1:=flat_le (f:=putI) (m:=123) (l:=t.ins) (fun i hi=>putI_le (hk.1 i hi).1 (h4 i hi).1 (h4 i hi).2 (hk.1 i hi).2.2);have e2:=flat_le (f:=putO) (m:=41) (l:=t.outs) (fun o ho=>putO_le (hk.2.1 o ho));have e3:=numB_le (n:=t.ins.length) (by omega);have e4:=numB_le (n:=t.outs.length) (by omega);have e5:=numB_le (n:=t.fee.toNat) (by have:=hk.2.2.1.2;omega);have e6:=numB_le (n:=t.expiry.toNat) (by omega);unfold putTB;simp only [List.length_append];omega
theorem tid_any {A : Option Addr} {n c : Nat} {A2 : Option Addr} {n2 c2 : Nat} {fee ex : Int} {l : List (Value × Inp)} {os : List Outp} {zs : List Value} (hz : Dig zs (tidB ⟨l.map Prod.snd, os, fee, ex⟩)) (w : World) (hi : InsAt w A n c l) (ho : OutsAt w A2 n2 c2 os) (hn : n ≤ 100000) (hn2 : n2 ≤ 100000) (hf : U64 fee) (hex : I64 ex) (ht : Tabs w) :
  Calls Tryz.prog 42 #[.agg (txV A n c A2 n2 c2 fee ex).toArray] w fun e w'=>e=.returned (.agg zs.toArray)∧Grow w w':=by
 have HI:=kp hi;have HO:=kp ho;have HT0:=kp ht;have HZ:=kp hz;have HTC:=kp (txV_cl (A:=A) (n:=n) (c:=c) (A2:=A2) (n2:=n2) (c2:=c2) (fee:=fee) (ex:=ex));have HP:=kp (fun w hi ho=>tput_any (A:=A) (n:=n) (c:=c) (A2:=A2) (n2:=n2) (c2:=c2) (fee:=fee) (ex:=ex) (l:=l) (os:=os) w hi ho hn hn2 hf hex);have HK:=kq ((Txn.mk (l.map Prod.snd) os fee ex).ok) ⟨fun i h=>by obtain⟨p,hp,rfl⟩:=List.mem_map.1 h;exact(hi.2.1 p hp).2,ho.2.1,hf,hex⟩;obtain⟨t,htt⟩:=xe (Txn.mk (l.map Prod.snd) os fee ex);rw[← htt]at HP HK HZ;obtain⟨ck,hck⟩:=xe (checkT t);have HCK:=kp hck;rw[← hck]at HP;have HTF:=kq (tformB t=if ck=0 then putTB t else []) (by rw[hck];rfl);have HTI:=kq (tidB t=if ck=0 then sha (underB 8 [putTB t]) else zeroD) (by rw[hck];rfl);obtain⟨tf,htf⟩:=xe (tformB t);rw[← htf]at HP HTF;obtain⟨tv,htv⟩:=xe (txV A n c A2 n2 c2 fee ex);rw[← htv]at HTC HP ⊢;obtain⟨w_,hw⟩:=xe w;have HB:=kq (Below w.heap.size w w_) (by rw[hw];exact Below.refl _ _)
 suffices H:Calls Tryz.prog 42 #[.agg tv.toArray] w_ fun e w'=>e=.returned (.agg zs.toArray)∧Grow w w' by rw[hw]at H;exact H
 clear hw hi ho htv htf hf hex htt hck hz ht
 go_enter Tryz.func42,Tryz.ntmps42
 go_wp2_with (with_reducible first|refine wpl_box (o:=⟨some 1,_,_,_,_,_⟩) rfl rfl rfl ?_);intro v_ b_ y_ s_;have HX_:=kp (at_mk b_ HTC.o.len);clear b_ s_;have HG_:=kp HB.o.size;replace HB:=kp (HB.o.grow' y_);generalize x_:w_.heap.size=g1 at HX_ HG_ ⊢;clear x_;have HX_g:=HG_;clear HG_;have HX:=HX_;clear y_ HX_;try clear w_
 rename World=>w_;go_wp2_with (with_reducible first|refine wpl_alloc (o:=⟨some 2,_,_,_,_,_⟩) rfl rfl zero_id ?_);intro v_ b_ y_ s_;have HX_:=kp (at_mk b_ len_id);clear b_ s_;have HG_:=kp HB.o.size;replace HB:=kp (HB.o.grow' y_);replace HX:=kp (HX.o.grow y_);generalize x_:w_.heap.size=g2 at HX_ HG_ ⊢;clear x_;have HV_g:=HG_;clear HG_;have HV:=HX_;clear y_ HX_;try clear w_
 rename World=>w_;go_wp2_with (with_reducible refine wlb 6 row_tx HX.o.blk HX.o.len ?_);refine(HP.o _ (HI.o.grow HB.o) (HO.o.grow HB.o)).mono ?_;rintro e v_ ⟨A',c',rfl,hs,hc,y_⟩;have HS:=kp hs;have HC:=kp hc;replace HV:=kp (HV.o.grow y_);replace HB:=kp (HB.o.grow' y_);clear hs hc y_ HX HP;try clear w_
 rename World=>w_;by_cases h0:ck=0
 ·have HTE:=kq (tf=putTB t) (by rw[HTF.o,if_pos h0]);have HZ1:=kq (Dig zs (sha (underB 8 [tf]))) (by have h:=HZ.o;rw[HTI.o,if_pos h0]at h;rw[HTE.o];exact h);have HLE:=kq (tf.length≤3000) (by rw[HTE.o];exact putTB_le HK.o (by rw[← HCK.o,h0]));subst h0;go_wp2_with fail;generalize hw_:World.alloc w_ _=w4;obtain⟨hX,hb,hs⟩:=alloc_eq hw_;have HX:=kp hX;have HV4:=kp (HV.o.grow hb);have HB4:=kp (HB.o.grow' hb);have HS4:=kp (HS.o.grow hb);clear hX hb hs hw_ HV HB HS;refine(punder_any (m:=8) HZ1.o (parts1 HX.o HS4.o HC.o) (by omega) (fun l hl=>by simp only [List.mem_cons,List.not_mem_nil,or_false]at hl;rw[hl];exact Nat.le_trans HLE.o (by omega)) (HT0.o.grow HB4.o)).mono ?_;rintro e w5 ⟨rfl,hb5⟩;have HV5:=kp (HV4.o.grow hb5);have HB5:=kp (HB4.o.grow' hb5);clear hb5 HV4 HB4;go_wp2_with (with_reducible refine wsb row_id HV5.o.blk HV5.o.len HZ1.o.len HZ1.o.one ?_);intro w6 hb6 hg6 hs6;have HB6:=kp hb6;have HBB:=kp (put_below HB5.o HV_g.o hg6);clear hb6 hg6 hs6;go_wp2_with fail;refine ret_cell rfl row_id HB6.o rfl HZ1.o.len rfl ?_;exact⟨rfl,HBB.o⟩
 ·have HZ0:=kq (zs=zeroD.map B) (by have h:=HZ.o.1;rw[HTI.o,if_neg h0]at h;exact h);have d0:(ck != 0)=true:=by simpa using h0
  have T0:=kp built_id0;rw[← HZ0.o]at T0;clear h0;go_wp2_with (first|(refine wpl_build (o:=⟨some 12,_,_,_,_,_⟩) rfl rfl T0.o ?_)|(with_reducible refine wsb row_id HV.o.blk HV.o.len HZ.o.len HZ.o.one ?_));intro w4 hb4 hg4 hs4;have HB4:=kp hb4;have HBB:=kp (put_below HB.o HV_g.o hg4);clear hb4 hg4 hs4;go_wp2_with fail;refine ret_cell rfl row_id HB4.o rfl HZ.o.len rfl ?_;exact⟨rfl,HBB.o⟩
theorem rtid_any {A : Option Addr} {n c : Nat} {A2 : Option Addr} {n2 c2 : Nat} {fee ex : Int} {l : List (Value × Inp)} {os : List Outp} {zs : List Value} (hck : checkT ⟨l.map Prod.snd, os, fee, ex⟩ = 0) (hz : Dig zs (tidB ⟨l.map Prod.snd, os, fee, ex⟩)) (w : World) (hi : InsAt w A n c l) (ho : OutsAt w A2 n2 c2 os) (hf : U64 fee) (hex : I64 ex) :
  Calls Tryz.prog 22 #[.agg (txV A n c A2 n2 c2 fee ex).toArray] w fun e w'=>e=.returned (.agg zs.toArray)∧Grow w w':=by
 obtain⟨r1,r2,r3,r4⟩:=right_of hck;have HI:=kp hi;have HO:=kp ho;have HTC:=kp (txV_cl (A:=A) (n:=n) (c:=c) (A2:=A2) (n2:=n2) (c2:=c2) (fee:=fee) (ex:=ex));have HP:=kp (fun w hi ho=>rtput_any (A:=A) (n:=n) (c:=c) (A2:=A2) (n2:=n2) (c2:=c2) (fee:=fee) (ex:=ex) (l:=l) (os:=os) w hi ho (by simpa [hi.2.2.1] using r1) (by simpa [ho.2.2.1] using r2) hf r3 (fun p hp=>r4 p.2 (List.mem_map_of_mem hp)));have HK:=kq ((Txn.mk (l.map Prod.snd) os fee ex).ok) ⟨fun i h=>by obtain⟨p,hp,rfl⟩:=List.mem_map.1 h;exact(hi.2.1 p hp).2,ho.2.1,hf,hex⟩;obtain⟨t,htt⟩:=xe (Txn.mk (l.map Prod.snd) os fee ex);rw[← htt]at HP HK hck hz;have HLE:=kp (putTB_le HK.o hck);have HZ:=kq (Dig zs (sha (underB 8 [putTB t]))) (by have h:=hz;unfold tidB at h;rw[if_pos hck]at h;exact h);obtain⟨tf,htf⟩:=xe (putTB t);rw[← htf]at HP HLE HZ;obtain⟨m,hm⟩:=xe tf.length;have HN:=kp hm.symm;rw[← hm]at HP HLE;have hm3:m≤3000:=HLE.o;obtain⟨tv,htv⟩:=xe (txV A n c A2 n2 c2 fee ex);rw[← htv]at HTC HP ⊢;obtain⟨w_,hw⟩:=xe w;have HB:=kq (Below w.heap.size w w_) (by rw[hw];exact Below.refl _ _)
 suffices H:Calls Tryz.prog 22 #[.agg tv.toArray] w_ fun e w'=>e=.returned (.agg zs.toArray)∧Grow w w' by rw[hw]at H;exact H
 clear hw hi ho htv htf hf hex htt hck hz hm r1 r2 r3 r4
 go_enter Tryz.func22,Tryz.ntmps22
 go_wp2_with (with_reducible first|refine wpl_box (o:=⟨some 1,_,_,_,_,_⟩) rfl rfl rfl ?_);intro v_ b_ y_ s_;have HX_:=kp (at_mk b_ HTC.o.len);clear b_ s_;have HG_:=kp HB.o.size;replace HB:=kp (HB.o.grow' y_);generalize x_:w_.heap.size=g1 at HX_ HG_ ⊢;clear x_;have HX_g:=HG_;clear HG_;have HX:=HX_;clear y_ HX_;try clear w_
 rename World=>w_;go_wp2_with (with_reducible first|refine wpl_alloc (o:=⟨some 2,_,_,_,_,_⟩) rfl rfl zero_id ?_);intro v_ b_ y_ s_;have HX_:=kp (at_mk b_ len_id);clear b_ s_;have HG_:=kp HB.o.size;replace HB:=kp (HB.o.grow' y_);replace HX:=kp (HX.o.grow y_);generalize x_:w_.heap.size=g2 at HX_ HG_ ⊢;clear x_;have HV_g:=HG_;clear HG_;have HV:=HX_;clear y_ HX_;try clear w_
 rename World=>w_;go_wp2_with (with_reducible refine wst 4 ?_);refine stop_go ?_;generalize hw_:World.alloc w_ _=w1_;obtain⟨hX_,hb1,hs_⟩:=alloc_eq hw_;have HW:=kp (own_blk (base:=w_.heap.size) hX_ (n:=1) rfl (Nat.le_refl _) (by simp [maxLen]));have HG1:=kp hb1;have HX1:=kp (HX.o.grow hb1);clear hw_ hX_ hb1 hs_ HX;go_wp2_with (with_reducible refine wlb 4 row_tx HX1.o.blk HX1.o.len ?_);refine(HP.o _ (HI.o.grow (HB.o.grow' HG1.o)) (HO.o.grow (HB.o.grow' HG1.o))).mono ?_;rintro e v_ ⟨A',c',rfl,hs,hc,y_⟩;have HS:=kp hs;have HW2:=kp (own_below HW.o y_);have HG2:=kp (Grow.trans _ _ _ HG1.o y_);clear hs hc y_ HW HG1 HX1 HP;go_wp2_with fail;refine(long_any _ _ _ tf _ HS.o (by omega)).mono ?_;rintro e w3_ ⟨A5,c5,rfl,ho_,y_⟩;have HLG:=kp (Sl.of_own ho_);have HA:=kp (all_bytes (beBytes m 4++tf));have HO3:=kp (own_below HW2.o y_);have HG3:=kp (Grow.trans _ _ _ HG2.o y_);clear ho_ y_ HW2 HG2 HS;go_wp2_with (at_builtin;refine wpl_apps rfl rfl el_u8 HO3.o rfl HLG.o rfl HA.o (by omega) (by omega) HG3.o.size ?_);intro A6 c6 w4 ho hg hA;have hb4:Grow w_ w4:=app_below HG3.o HO3.o hg
 have HX:=kp (show Sl w4 w4.heap.size 1 A6 (1+(4+m)) ((underB 8 [tf]).map B) by
  have h:=Sl.of_own ho;rw[under_eq 8 tf m HN.o];try simp only [List.map_append,List.map_cons,List.map_nil,List.cons_append,List.nil_append,List.append_assoc]at h
  simp only [List.map_append,List.map_cons,List.map_nil,List.cons_append,List.nil_append,List.append_assoc]
  exact h)
 have HB_:=kp (HB.o.grow' hb4);have HV_:=kp (HV.o.grow hb4);clear HB HV ho hg hA HO3 HG3 HLG HA hb4;go_wp2_with fail;refine(dof_any _ _ _ HZ.o _ HX.o (by omega)).mono ?_;rintro e w5 ⟨rfl,hb5⟩;have HV5:=kp (HV_.o.grow hb5);have HB5:=kp (HB_.o.grow' hb5);clear hb5 HV_ HB_;go_wp2_with (with_reducible refine wsb row_id HV5.o.blk HV5.o.len HZ.o.len HZ.o.one ?_);intro w6 hb6 hg6 hs6;have HB6:=kp hb6;have HBB:=kp (put_below HB5.o HV_g.o hg6);clear hb6 hg6 hs6;go_wp2_with fail;refine ret_cell rfl row_id HB6.o rfl HZ.o.len rfl ?_;exact⟨rfl,HBB.o⟩
def greatT(t:Txn):Bool:=decide (20 < t.ins.length) || decide (20 < t.outs.length) || t.ins.any (fun i=>decide (100 < i.secret.length))
theorem rtgreat_any {A : Option Addr} {n c : Nat} {A2 : Option Addr} {n2 c2 : Nat} {fee ex : Int} {l : List (Value × Inp)} {os : List Outp} (w : World) (hi : InsAt w A n c l) (ho : os.length = n2) (hn : n ≤ 9223372036854775807) (hn2 : n2 ≤ 9223372036854775807) :
  Calls Tryz.prog 7 #[.agg (txV A n c A2 n2 c2 fee ex).toArray] w fun e w'=>e=.returned (.int .i64 (if greatT ⟨l.map Prod.snd,os,fee,ex⟩ then 1 else 0))∧Grow w w':=by
 have HI:=kp hi;have HTC:=kp (txV_cl (A:=A) (n:=n) (c:=c) (A2:=A2) (n2:=n2) (c2:=c2) (fee:=fee) (ex:=ex));have HT0:=kq ((txV A n c A2 n2 c2 fee ex)[0]? = some (.slice A n c)) rfl;have HT1:=kq ((txV A n c A2 n2 c2 fee ex)[1]? = some (.slice A2 n2 c2)) rfl;obtain⟨gr,hgr⟩:=xe (greatT ⟨l.map Prod.snd,os,fee,ex⟩);obtain⟨ins,hins⟩:=xe (l.map Prod.snd);have HINS:=kp hins;have HIL:=kq (ins.length=n) (by rw[hins,List.length_map];exact hi.2.2.1);have HGR:=kq (gr=(decide (20 < n) || decide (20 < n2) || ins.any (fun i=>decide (100 < i.secret.length)))) (by rw[hgr,hins];unfold greatT;simp only [List.length_map];rw[hi.2.2.1,ho]);rw[← hgr];obtain⟨gz,hgz⟩:∃z:Int,z=if gr then 1 else 0:=⟨_,rfl⟩
 have HGZ:=kp hgz;rw[← hgz];obtain⟨tv,htv⟩:=xe (txV A n c A2 n2 c2 fee ex);rw[← htv]at HTC HT0 HT1 ⊢;obtain⟨w_,hw⟩:=xe w;have HB:=kq (Below w.heap.size w w_) (by rw[hw];exact Below.refl _ _)
 suffices H:Calls Tryz.prog 7 #[.agg tv.toArray] w_ fun e w'=>e=.returned (.int .i64 gz)∧Grow w w' by rw[hw]at H;exact H
 clear hw hi ho htv hgr hins hgz
 go_enter Tryz.func7,Tryz.ntmps7
 go_wp2_with (with_reducible first|refine wpl_box (o:=⟨some 1,_,_,_,_,_⟩) rfl rfl rfl ?_);intro v_ b_ y_ s_;have HX_:=kp (at_mk b_ HTC.o.len);clear b_ s_;have HG_:=kp HB.o.size;replace HB:=kp (HB.o.grow' y_);generalize x_:w_.heap.size=g1 at HX_ HG_ ⊢;clear x_;have HX_g:=HG_;clear HG_;have HX:=HX_;clear y_ HX_;try clear w_
 rename World=>w_;have c0:=HX.o.blk.at_ HT0.o;have c1:=HX.o.blk.at_ HT1.o;by_cases h1:n≤20
 ·by_cases h2:n2≤20
  ·have b1:¬ (20 < (n:Int)):=by omega
   have b2:¬ (20 < (n2:Int)):=by omega
   have HGE:=kq (gr=ins.any (fun i=>decide (100 < i.secret.length))) (by rw[HGR.o,decide_eq_false (by omega),decide_eq_false (by omega)];rfl);go_wp2_with fail;go_loopw [3] (fun iv wr=>∃k:Nat,k≤n∧iv=.int .i64 k∧Hid ((ins.take k).any (fun i=>decide (100 < i.secret.length))=false)∧wr=w_) (fun iv _=>n - (intOf iv).toNat)
   case atStart=>exact⟨0,by omega,rfl,kp (by simp),rfl⟩
   case round =>
    obtain⟨k,hk,rfl,hany,rfl⟩:=hrel;by_cases hlt:k < n
    ·obtain⟨b,off,p,rfl,hp,hok,hc⟩:=HI.o.at_ hlt;obtain⟨⟨As,cs,es,_,_⟩,hio⟩:=hok;have c34:=bcell HB.o (hc 34 _ (in_at (v:=p.1) hio).2.2);rw[es]at c34;have HSN:=kp (any_take (fun i:Inp=>decide (100 < i.secret.length)) (l:=ins) (k:=k) (p:=p.2) (by rw[HINS.o,List.getElem?_map,hp];rfl));have HME:=kq (p.2∈ins) (by rw[HINS.o];exact List.mem_map_of_mem (List.mem_of_getElem? hp));obtain⟨sl,hsl⟩:=xe p.2.secret.length;have HSL:=kp hsl;rw[← hsl]at c34;have v1:IntKind.i64.wrap ((k:Int)+1)=(k:Int)+1:=IntWalk.i64_in _ (by omega);clear hp hc hio es hsl;by_cases h100:sl≤100
     ·have b3:¬ (100 < (sl:Int)):=by omega
      have HNX:=kq ((ins.take (k+1)).any (fun i=>decide (100 < i.secret.length))=false) (by rw[HSN.o,hany.o,← HSL.o,decide_eq_false (by omega)];rfl);go_wp2_with fail;go_roundw
      all_goals clear v1
      case rel=>exact⟨k+1,by omega,by go_num,HNX,by first|trivial|rfl⟩
      case measure=>simp [intOf];omega
     ·have b3:(100 < (sl:Int)):=by omega
      have HG1:=kq (gr=true) (by rw[HGE.o];exact List.any_eq_true.2 ⟨_,HME.o,by rw[← HSL.o];simp;omega⟩);clear v1;go_wp2_with fail;go_ret
      exact⟨by rw[HGZ.o,HG1.o];rfl,HB.o⟩
    ·obtain rfl:k=n:=by omega
     have HG1:=kq (gr=false) (by rw[HGE.o];have h:=hany.o;rw[List.take_of_length_le (by rw[HIL.o];exact Nat.le_refl _)] at h;exact h);go_wp2_with fail;go_ret
     exact⟨by rw[HGZ.o,HG1.o];rfl,HB.o⟩
  ·have b1:¬ (20 < (n:Int)):=by omega
   have b2:(20 < (n2:Int)):=by omega
   have HG1:=kq (gr=true) (by rw[HGR.o,decide_eq_true (show 20 < n2 by omega)];simp);go_wp2_with fail;go_ret
   exact⟨by rw[HGZ.o,HG1.o];rfl,HB.o⟩
 ·have b1:(20 < (n:Int)):=by omega
  have HG1:=kq (gr=true) (by rw[HGR.o,decide_eq_true (show 20 < n by omega)];simp);go_wp2_with fail;go_ret
  exact⟨by rw[HGZ.o,HG1.o];rfl,HB.o⟩
open Go.RowKit Go.Maps Go.Shelf
theorem cclone_any (b : Nat) (es : Array MapEntry) (clock : Nat) (w : World) (hb : w.heap[b]? = some (.map es clock)) :
  Calls Tryz.prog 74 #[.map (some b)] w fun e w'=>e=.returned (.map (some w.heap.size))∧w'=w.alloc (.map es clock):=by
 have hq:=fun w=>run_eql_map_nil_sl (P:=Tryz.prog) w 88 _ _ (some b) Tryz.underlying88
 go_enter Tryz.func74,Tryz.ntmps74
 go_wp2
 rw[run_callFunc_extern Tryz.func102 (by kernel_rfl) (by kernel_rfl) (by kernel_rfl) (e:=Extern.MapsClone.clone) (by kernel_rfl),run_maps_clone_sl w 88 hb];simp only [Result.andThen];rw[Oper.upon_value]
 go_wp2
 rw[run_typeAssert_map_sl _ 88 20 _ _ _ Tryz.underlying88];simp only [Result.andThen];rw[Oper.upon_value]
 go_wp2
 go_ret
 exact⟨rfl,rfl⟩
open Go.RowKit
def addE(a b:Int):Int×Int:=if a≤4611686018427387904∧b≤4611686018427387904∧a+b≤4611686018427387904 then(a+b,0) else(0,6)
theorem cadd_any (a b : Int) (w : World) (ha : 0 ≤ a) (hb : 0 ≤ b) :
  Calls Tryz.prog 64 #[.int .u64 a,.int .u64 b] w fun e w'=>e=.returned (.tuple #[.int .u64 (addE a b).1,.int .i64 (addE a b).2])∧Below w.heap.size w w':=add_any a b w ha hb
def putR(L:CoinsL)(s:Int)(p:PtK)(c:CoinV):Int:=
 if p.2 < 0∨16≤p.2∨c.2=0∨4611686018427387904 < c.2 then 5 else if(lookC L p).isSome then 24 else if 256≤L.length then 18 else(addE s c.2).2
theorem addE_bd(a b:Int)(ha:0≤a)(hb:0≤b):0≤(addE a b).1∧(addE a b).1≤4611686018427387904∧0≤(addE a b).2∧(addE a b).2≤6∧((addE a b).2=0→(addE a b).1=a+b):=by
 unfold addE;split <;> simp <;> omega
theorem lookC_none{L:CoinsL}{p:PtK}(h:(lookC L p).isSome=false):∀e∈L,e.1≠p:=by
 intro e he hk;unfold lookC at h;cases hf:L.find? (fun e=>e.1 == p) with
 | none=>exact List.find?_eq_none.1 hf e he (by simpa using hk)
 | some x=>rw[hf]at h;simp at h
def putC(w0:World)(g b:Nat)(es:Array MapEntry)(clock:Nat)(p:PtK)(c:CoinV)(s s2:Int)(k:Nat)(w:World):Prop:=
 Touched [g,b] w0 w∧w.heap.size=w0.heap.size ∧
 w.heap[b]? = some (if k=0 then .map es clock else if k=1 then .map (es.push { key:=ptA p,val:=coinA noCoin,born:=clock }) (clock+1)
  else .map ((es.push { key:=ptA p,val:=coinA noCoin,born:=clock }).modify es.size fun e=>{ e with val:=coinA c }) (clock+1)) ∧
 Blk w g 90 [.map (some b),.int .u64 (if k=3 then s2 else s)]
section
variable {w0 w:World} {g b:Nat} {es:Array MapEntry} {clock:Nat} {p:PtK} {c:CoinV} {s s2:Int} {lx:Lit}
theorem putC.start(h1:w0.heap[b]? = some (.map es clock))(h2:Blk w0 g 90 [.map (some b),.int .u64 s]):putC w0 g b es clock p c s s2 0 w0.drew:=
 ⟨Touched.of_below (Drawn.all (Drawn.one w0)),rfl,h1,h2⟩
theorem putC.entry(h:putC w0 g b es clock p c s s2 0 w)(hgb:g≠b):putC w0 g b es clock p c s s2 1 (withBlk w b (.map (es.push { key:=ptA p,val:=coinA noCoin,born:=clock }) (clock+1))):=by
 obtain⟨h1,h2,h3,h4⟩:=h;exact⟨h1.grown (withBlk_grown _ _ _) (.inl (by simp)),by rw[withBlk_size,h2],withBlk_heap h3,h4.grown (withBlk_grown _ _ _) (by simpa using hgb)⟩
theorem putC.fill(h:putC w0 g b es clock p c s s2 1 w)(hgb:g≠b):putC w0 g b es clock p c s s2 2 (withBlk w b (.map ((es.push { key:=ptA p,val:=coinA noCoin,born:=clock }).modify es.size fun e=>{ e with val:=coinA c }) (clock+1))):=by
 obtain⟨h1,h2,h3,h4⟩:=h;exact⟨h1.grown (withBlk_grown _ _ _) (.inl (by simp)),by rw[withBlk_size,h2],withBlk_heap h3,h4.grown (withBlk_grown _ _ _) (by simpa using hgb)⟩
theorem putC.sum(h:putC w0 g b es clock p c s s2 2 w)(hgb:g≠b):putC w0 g b es clock p c s s2 3 (w.setCell ⟨g,1,none⟩ (.int .u64 s2)):=by
 obtain⟨h1,h2,h3,h4⟩:=h;exact⟨h1.grown (grown_set w g 1 _) (.inl (by simp)),by simpa using h2,((grown_set w g 1 (.int .u64 s2)).block b (Array.getElem?_eq_some_iff.1 h3).1 (by simpa using fun e=>hgb e.symm)).trans h3,h4.set_ 1 (.int .u64 s2)⟩
theorem putC.run0 (h : putC w0 g b es clock p c s s2 0 w) (hm : MapOK Tryz.prog 69 es clock) (hx : keyOf Tryz.prog 69 (ptA p) = some lx) (hno : ∀ q ∈ kvs es, q.1 ≠ ptA p) :
  (Instr.mapEntry 88 (.map (some b)) (ptA p)).run Tryz.prog w=.ok (.tuple #[coinA noCoin,goInt clock]) (withBlk w b (.map (es.push { key:=ptA p,val:=coinA noCoin,born:=clock }) (clock+1))):=
 run_mapEntry_no kl_point Tryz.underlying88 h.2.2.1 hm hx hno zeroV_coin
theorem putC.run1 (h : putC w0 g b es clock p c s s2 1 w) (hm : MapOK Tryz.prog 69 es clock) (hx : keyOf Tryz.prog 69 (ptA p) = some lx) (hno : ∀ q ∈ kvs es, q.1 ≠ ptA p) :
  (Instr.entryStore 88 (.map (some b)) (.int .i64 clock) (coinA c)).run Tryz.prog w=.ok () (withBlk w b (.map ((es.push { key:=ptA p,val:=coinA noCoin,born:=clock }).modify es.size fun e=>{ e with val:=coinA c }) (clock+1))):=
 run_entryStore Tryz.underlying88 h.2.2.1 (hm.push hx hno _) (j:=es.size) (en:={ key:=ptA p,val:=coinA noCoin,born:=clock }) (by simp) (coinA c)
theorem putC.done {L : CoinsL} (h : putC w0 g b es clock p c s s2 3 w) (hgb : g ≠ b) (hm : MapOK Tryz.prog 69 es clock) (hx : keyOf Tryz.prog 69 (ptA p) = some lx) (hno : ∀ q ∈ kvs es, q.1 ≠ ptA p) (hL : kvs es = encC L) (hLO : LOK (L ++ [(p, c)])) :
  CoinsAt w g b (L++[(p,c)]) s2:=by
 obtain⟨h1,h2,h3,h4⟩:=h;refine⟨h4,⟨_,_,h3,(hm.push hx hno _).modify _ _,?_⟩,hLO,hgb⟩;rw[kvs_modify (en:={ key:=ptA p,val:=coinA noCoin,born:=clock }) (by simp),kvs_push,hL];have:es.size=(encC L).length:=by rw[← hL,kvs_length]
 rw[this];simp [encC]
end
theorem put_any (g b : Nat) (L : CoinsL) (s : Int) (p : PtK) (c : CoinV) (w : World) (h : CoinsAt w g b L s) (hp : PtOK p) (hc : CoinOK c) (hs0 : 0 ≤ s) (hs1 : s ≤ 4611686018427387904) :
  Calls Tryz.prog 32 #[.pointer (some ⟨g,0,none⟩),ptA p,coinA c] w fun e w'=>e=.returned (.int .i64 (putR L s p c))∧Touched [g,b] w w' ∧
   (putR L s p c=0→CoinsAt w' g b (L++[(p,c)]) (addE s c.2).1)∧(putR L s p c≠0→CoinsAt w' g b L s):=by
 obtain⟨d,hd,hde,-⟩:=h.look hp;obtain⟨ok,hok⟩:=xe ((lookC L p).isSome)
 have hlk:∀w',CoinsAt w' g b L s→(Instr.lookup 88 (.map (some b)) (ptA p) true).run Tryz.prog w'=.ok (.tuple #[coinA d,.bool ok]) w':=by
  intro w' h';obtain⟨c',_,e,h2⟩:=h'.look hp;rw[hde,← e,hok];exact h2
 have HLK:=kp hlk;have HC:=kp h;have HP:=kp hp;have HCO:=kp hc;have HX:=kp (ptV_length hp.1);have HY:=kp (coinV_length hc);have HDL:=kp (coinV_length hd);have HD1:=kp (coinV_one d);have HOK:=kp hok;have HPI:=kp (ptV_ix hp.1);have HCI:=kq ((coinV c)[32]? = some (.int .u64 c.2)) (by unfold coinV;rw[List.getElem?_append_right (by simp [hc.1])];simp [hc.1]);have hpw:=bounds_i64 hp.2;have hc0:=hc.2.1;have hc1:=hc.2.2;obtain⟨r,hr⟩:=xe (putR L s p c);rw[← hr];have HR:=kp hr;clear hok hde hc hp hlk hd hr;obtain⟨xs,hxs⟩:=xe (ptV p);obtain⟨ys,hys⟩:=xe (coinV c);obtain⟨cs,hcs⟩:=xe (coinV d);rw[coinA,← hcs]at HLK;rw[← hcs]at HDL HD1;rw[ptA,← hxs,coinA,← hys];rw[ptA,← hxs]at HLK;rw[← hxs]at HX HPI;rw[← hys]at HY HCI;have HXE:=kp hxs;have HYE:=kp hys;clear hxs hcs hys;obtain⟨z,hz⟩:=xe w.heap.size;have hg:g < z:=by rw[hz];exact h.ltg
 have hb:b < z:=by rw[hz];exact h.ltb
 have HZ:=kp hz;have hal:=addE_bd s c.2 hs0 hc0;have ha:=fun w=>cadd_any s c.2 w hs0 hc0
 obtain⟨ae,hae⟩:=xe (addE s c.2);rw[← hae]at hal ha ⊢;have HAE:=kp hae;have HA:=kp ha;obtain⟨pi,hpi⟩:=xe p.2;obtain⟨ci,hci⟩:=xe c.2;rw[← hpi]at HPI hpw;rw[← hci]at HCI hc0 hc1 HA;have HPE:=kp hpi;have HCE:=kp hci;obtain⟨s2,ec⟩:=ae;simp only at HA hal;clear h hz ha hae hpi hci
 go_enter Tryz.func32,Tryz.ntmps32
 go_wp2_with (with_reducible first|refine wpl_box (o:=⟨some 4,_,_,_,_,_⟩) rfl rfl rfl ?_);intro w1 hb1 hbw1 hsz1;rw[← HZ.o]at hb1 hbw1 hsz1 ⊢;go_wp2_with (with_reducible first|refine wpl_box (o:=⟨some 5,_,_,_,_,_⟩) rfl rfl rfl ?_);intro w2 hb2 hbw2 hsz2;have HB1:=kp (hb1.below hbw2 (by omega));have HB2:=kp hb2;have HBW:=kp (hbw1.trans (hbw2.mono (by omega)));have HSZ:=kp hsz2;have HC2:=kp (HC.o.below HBW.o hg hb);clear hb1 hb2 hbw1 hbw2 hsz1 hsz2;repeat' (first|(with_reducible refine wp_phase (id:=1) (newC w2 77 (coinV noCoin) cs) [9,10] [(0,2),(0,2),(0,2),(0,2),(0,2),(0,2),(0,2),(0,2),(0,2),(0,0),(1,1),(0,2)] (by kernel_rfl) (by kernel_rfl) ?_ ?_)|go_values|go_skip|go_guarded|go_step|go_upon|go_back)
 ·exact newC.start
 have HF:=kq (∀k w',newC w2 77 (coinV noCoin) cs k w'→w'.cell? ⟨g,0,none⟩=some (.map (some b))) (fun k w' h=>(HC2.o.call (newC.low k w' h)).blk.at_ rfl);have HL:=kq (∀k w',newC w2 77 (coinV noCoin) cs k w'→(Instr.lookup 88 (.map (some b)) (.agg xs.toArray) true).run Tryz.prog w'=.ok (.tuple #[.agg cs.toArray,.bool ok]) w') (fun k w' h=>HLK.o w' (HC2.o.call (newC.low k w' h)));have HX1:=kq (∀k w',newC w2 77 (coinV noCoin) cs k w'→Blk w' z 69 xs) (fun k w' h=>HB1.o.call (newC.low k w' h));refine ph_value rfl (by first|rfl|go_simp) (fun k_ _ _ w_ hC_=>by first|(go_simp;rfl)|(go_simp;done)|rfl) (fun K hK=>?_);go_simp;refine hK _ ?_;clear hK K;refine ph_value rfl (by first|rfl|go_simp) (fun k_ _ _ w_ hC_=>by first|(go_simp;rfl)|(go_simp;done)|rfl) (fun K hK=>?_);go_simp;refine hK _ ?_;clear hK K;refine ph_value rfl (by first|rfl|go_simp) (fun k_ _ _ w_ hC_=>by first|(go_simp;rfl)|(go_simp;done)|rfl) (fun K hK=>?_);go_simp;refine hK _ ?_;clear hK K;refine ph_value rfl (by first|rfl|go_simp) (fun k_ _ _ w_ hC_=>by have c1:=HF.o _ _ hC_;first|(go_simp;rfl)|(go_simp;done)|rfl) (fun K hK=>?_);go_simp;refine hK _ ?_;clear hK K;refine ph_load rfl rfl rfl row_point (fun k _ _ w h=>HX1.o k w h) rfl HX.o ?_
 (intro K hK;go_simp;refine hK _ ?_;clear hK K)
 refine ph_value rfl (by first|rfl|go_simp) (fun k_ _ _ w_ hC_=>by have c1:=HL.o _ _ hC_;first|(go_simp;rfl)|(go_simp;done)|rfl) (fun K hK=>?_);go_simp;refine hK _ ?_;clear hK K;refine ph_value rfl (by first|rfl|go_simp) (fun k_ _ _ w_ hC_=>by first|(go_simp;rfl)|(go_simp;done)|rfl) (fun K hK=>?_);go_simp;refine hK _ ?_;clear hK K;refine ph_value rfl (by first|rfl|go_simp) (fun k_ _ _ w_ hC_=>by first|(go_simp;rfl)|(go_simp;done)|rfl) (fun K hK=>?_);go_simp;refine hK _ ?_;clear hK K;refine ph_value rfl (by first|rfl|go_simp) (fun k_ _ _ w_ hC_=>by first|(go_simp;rfl)|(go_simp;done)|rfl) (fun K hK=>?_);go_simp;refine hK _ ?_;clear hK K;refine ph_alloc 0 rfl rfl rfl rfl rfl zero_coin newC.lay ?_
 (intro K hK;go_simp;refine hK _ ?_;clear hK K)
 refine ph_store 1 rfl rfl rfl rfl rfl row_coin rfl rfl HDL.o HD1.o (newC.put (coinV_length noCoin_ok)) ?_
 (intro K hK;go_simp;refine hK _ ?_;clear hK K)
 refine ph_value rfl (by first|rfl|go_simp) (fun k_ _ _ w_ hC_=>by first|(go_simp;rfl)|(go_simp;done)|rfl) (fun K hK=>?_);go_simp;refine hK _ ?_;clear hK K;refine ph_nil ?_;intro w3 ⟨hl3,hs3,hx3⟩;have HB1':=kp (HB1.o.call hl3);have HB2':=kp (HB2.o.call hl3);have HL3:=kp (HBW.o.trans (hl3.mono (by rw[HSZ.o];omega)));have HS3:=kq (z+3=w3.heap.size) (by rw[hs3,HSZ.o]);have HC3:=kp (HC2.o.call hl3);clear hl3 hs3 hx3 HF HL HX1 HC2 HB1 HB2 HBW HLK;generalize w2.heap.size=xa;repeat' (first|(with_reducible refine wp_phase (id:=2) (fun(_:Nat) w'=>Below w3.heap.size w3 w') [] [(0,0),(0,0),(0,0),(0,0),(0,0),(0,0),(0,0),(0,0),(0,0),(0,0),(0,0),(0,0)] (by kernel_rfl) (by kernel_rfl) ?_ ?_)|go_values|go_skip|go_guarded|go_step|go_upon|go_back)
 ·exact Drawn.all (Drawn.one w3)
 have HF1:=kq (∀w',Below w3.heap.size w3 w'→w'.cell? ⟨g,1,none⟩=some (.int .u64 s)) (fun w' h=>(HC3.o.call h).blk.at_ rfl);have HF2:=kq (∀w',Below w3.heap.size w3 w'→w'.cell? ⟨z+1,32,none⟩=some (.int .u64 ci)) (fun w' h=>(HB2'.o.call h).at_ HCI.o);refine ph_value rfl (by first|rfl|go_simp) (fun k_ _ _ w_ hC_=>by first|(go_simp;rfl)|(go_simp;done)|rfl) (fun K hK=>?_);go_simp;refine hK _ ?_;clear hK K;refine ph_value rfl (by first|rfl|go_simp) (fun k_ _ _ w_ hC_=>by first|(go_simp;rfl)|(go_simp;done)|rfl) (fun K hK=>?_);go_simp;refine hK _ ?_;clear hK K;refine ph_value rfl (by first|rfl|go_simp) (fun k_ _ _ w_ hC_=>by first|(go_simp;rfl)|(go_simp;done)|rfl) (fun K hK=>?_);go_simp;refine hK _ ?_;clear hK K;refine ph_value rfl (by first|rfl|go_simp) (fun k_ _ _ w_ hC_=>by have c1:=HF1.o _ hC_;first|(go_simp;rfl)|(go_simp;done)|rfl) (fun K hK=>?_);go_simp;refine hK _ ?_;clear hK K;refine ph_value rfl (by first|rfl|go_simp) (fun k_ _ _ w_ hC_=>by first|(go_simp;rfl)|(go_simp;done)|rfl) (fun K hK=>?_);go_simp;refine hK _ ?_;clear hK K;refine ph_value rfl (by first|rfl|go_simp) (fun k_ _ _ w_ hC_=>by have c1:=HF2.o _ hC_;first|(go_simp;rfl)|(go_simp;done)|rfl) (fun K hK=>?_);go_simp;refine hK _ ?_;clear hK K;refine ph_call rfl (by first|rfl|go_simp) (fun w=>by first|rfl|(go_simp;rfl)|go_simp) (fun k _ _ w h=>(HA.o w).mono fun e w' ⟨he,hb⟩=>⟨he,below_step h h.size hb⟩) ?_
 (intro K hK;go_simp;refine hK _ ?_;clear hK K)
 refine ph_value rfl (by first|rfl|go_simp) (fun k_ _ _ w_ hC_=>by first|(go_simp;rfl)|(go_simp;done)|rfl) (fun K hK=>?_);go_simp;refine hK _ ?_;clear hK K;refine ph_value rfl (by first|rfl|go_simp) (fun k_ _ _ w_ hC_=>by first|(go_simp;rfl)|(go_simp;done)|rfl) (fun K hK=>?_);go_simp;refine hK _ ?_;clear hK K;refine ph_value rfl (by first|rfl|go_simp) (fun k_ _ _ w_ hC_=>by first|(go_simp;rfl)|(go_simp;done)|rfl) (fun K hK=>?_);go_simp;refine hK _ ?_;clear hK K;refine ph_value rfl (by first|rfl|go_simp) (fun k_ _ _ w_ hC_=>by first|(go_simp;rfl)|(go_simp;done)|rfl) (fun K hK=>?_);go_simp;refine hK _ ?_;clear hK K;refine ph_value rfl (by first|rfl|go_simp) (fun k_ _ _ w_ hC_=>by first|(go_simp;rfl)|(go_simp;done)|rfl) (fun K hK=>?_);go_simp;refine hK _ ?_;clear hK K;refine ph_nil ?_;intro w4 hl4;have c1:=(HB1'.o.call hl4).at_ HPI.o;have c2:=(HB2'.o.call hl4).at_ HCI.o;have H1:=kp (HB1'.o.call hl4);have H2:=kp (HB2'.o.call hl4);have HC4:=kp (HC3.o.call hl4);have HL4:=kp (HL3.o.trans (hl4.mono (by have:=HS3.o;omega)));have HT4:=kp (Touched.of_below (l:=[g,b]) (by rw[← HZ.o];exact HL4.o));clear HF1 HF2 hl4 HB1' HB2' HL3 HS3 HC3;generalize hz1:z+1=z1 at *;have HZ1:=kp hz1;clear hz1;by_cases h1:pi < 0
 ·have e:r=5:=by rw[HR.o,putR,if_pos (.inl (by rw[← HPE.o];exact h1))]
  have HE:=kp e;clear e;go_wp2_with fail;go_ret
  exact⟨ret_int HE.o.symm,HT4.o,fun h=>by have:=HE.o;omega,fun _=>HC4.o⟩
 by_cases h2:16≤pi
 ·have e:r=5:=by rw[HR.o,putR,if_pos (.inr (.inl (by rw[← HPE.o];exact h2)))]
  have HE:=kp e;clear e;go_wp2_with fail;go_ret
  exact⟨ret_int HE.o.symm,HT4.o,fun h=>by have:=HE.o;omega,fun _=>HC4.o⟩
 by_cases h3:ci=0
 ·have e:r=5:=by rw[HR.o,putR,if_pos (.inr (.inr (.inl (by rw[← HCE.o];exact h3))))]
  have HE:=kp e;clear e;have hb3:(ci == 0)=true:=by simpa using h3
  clear h3;go_wp2_with fail;go_ret
  exact⟨ret_int HE.o.symm,HT4.o,fun h=>by have:=HE.o;omega,fun _=>HC4.o⟩
 have hb3:(ci == 0)=false:=beq_eq_false_iff_ne.2 h3;by_cases h4:4611686018427387904 < ci
 ·have e:r=5:=by rw[HR.o,putR,if_pos (.inr (.inr (.inr (by rw[← HCE.o];exact h4))))]
  have HE:=kp e;clear e;clear h3;go_wp2_with fail;go_ret
  exact⟨ret_int HE.o.symm,HT4.o,fun h=>by have:=HE.o;omega,fun _=>HC4.o⟩
 have HN:=kq (¬ (p.2 < 0∨16≤p.2∨c.2=0∨4611686018427387904 < c.2)) (by rw[← HPE.o,← HCE.o];omega);clear h3;cases ok
 case true =>
  have e:r=24:=by rw[HR.o,putR,if_neg HN.o,← HOK.o,if_pos rfl]
  have HE:=kp e;clear e;go_wp2_with fail;go_ret
  exact⟨ret_int HE.o.symm,HT4.o,fun h=>by have:=HE.o;omega,fun _=>HC4.o⟩
 case false =>
  have c3:w4.cell? ⟨g,0,none⟩=some (.map (some b)):=HC4.o.blk.at_ rfl;obtain⟨es,clock,hm1,hm2,hm3⟩:=HC4.o.map;have ee:es.size=L.length:=by rw[← kvs_length,hm3];simp [encC]
  have hl:=fun ty=>run_len_map w4 88 ty b es clock Tryz.underlying88 hm1
  simp only [ee]at hl;obtain⟨n,hn⟩:=xe L.length;rw[← hn]at hl;have HM1:=kp hm1;have HM2:=kp hm2;have HM3:=kp hm3;have HNL:=kp hn;clear hm1 hm2 hm3 ee hn;by_cases h5:256≤n
  ·have e:r=18:=by rw[HR.o,putR,if_neg HN.o,← HOK.o,if_neg (by simp),← HNL.o,if_pos h5]
   have HE:=kp e;clear e;go_wp2_with fail;go_ret
   exact⟨ret_int HE.o.symm,HT4.o,fun h=>by have:=HE.o;omega,fun _=>HC4.o⟩
  have e:r=ec:=by rw[HR.o,putR,if_neg HN.o,← HOK.o,if_neg (by simp),← HNL.o,if_neg h5,← HAE.o]
  have HE:=kp e;clear e;by_cases h6:ec=0
  ·have hb6:(ec != 0)=false:=bne_eq_false_iff_eq.2 h6;have H6:=kp h6;clear h6;obtain⟨lx,hx⟩:=keyOf_pt p HP.o
   have hno:∀q∈kvs es,q.1≠ptA p:=by
    intro q hq e;rw[HM3.o]at hq;obtain⟨en,hen,rfl⟩:=List.mem_map.1 hq;exact lookC_none HOK.o.symm en hen (ptA_inj (HC4.o.ok.1 en hen).1.1 HP.o.1 e)
   have hlo:LOK (L++[(p,c)]):=by
    refine⟨fun e he=>?_,?_⟩
    ·rcases List.mem_append.1 he with he|he
     ·exact HC4.o.ok.1 e he
     ·have:e=(p,c):=by simpa using he
      subst this;exact⟨HP.o,HCO.o⟩
    ·rw[List.map_append,List.nodup_append];refine⟨HC4.o.ok.2,by simp,fun a ha b' hb' e=>?_⟩;obtain⟨en,hen,rfl⟩:=List.mem_map.1 ha;have hb2:b'=p:=by simpa using hb'
     exact lookC_none HOK.o.symm en hen (e.trans hb2)
   have HXK:=kp hx;have HNO:=kp hno;have HLO:=kp hlo;clear hx hno hlo;have hgb:=HC4.o.ne;have HGB:=kp hgb;clear hgb;go_wp2_with fail;clear hl c1 c2;repeat' (first|(with_reducible refine wp_phase (id:=11) (putC w4 g b es clock p c s s2) [8,10,13] [(0,3),(0,3),(0,3),(0,3),(0,3),(0,3),(0,3),(0,3),(0,0),(0,3),(1,1),(0,3),(0,3),(2,2)] (by kernel_rfl) (by kernel_rfl) ?_ ?_)|go_values|go_skip|go_guarded|go_step|go_upon|go_back)
   ·exact putC.start HM1.o HC4.o.blk
   clear c3;have HF:=kq (∀k w',putC w4 g b es clock p c s s2 k w'→w'.cell? ⟨g,0,none⟩=some (.map (some b))) (fun k w' h=>h.2.2.2.at_ rfl);have HX1:=kq (∀k w',putC w4 g b es clock p c s s2 k w'→Blk w' z 69 xs) (fun k w' h=>(h.1.block z H1.o.lt (by simp;omega)).trans H1.o);have HX2:=kq (∀k w',putC w4 g b es clock p c s s2 k w'→Blk w' z1 77 ys) (fun k w' h=>(h.1.block z1 H2.o.lt (by have:=HZ1.o;simp;omega)).trans H2.o)
   have HR0:=kp (show ∀w',putC w4 g b es clock p c s s2 0 w'→(Instr.mapEntry 88 (.map (some b)) (.agg xs.toArray)).run Tryz.prog w'=.ok (.tuple #[coinA noCoin,.int .i64 clock]) (withBlk w' b (.map (es.push { key:=ptA p,val:=coinA noCoin,born:=clock }) (clock+1))) from fun w' h=>by
    have:=h.run0 HM2.o HXK.o HNO.o
    rw[HXE.o];exact this)
   have HR1:=kp (show ∀w',putC w4 g b es clock p c s s2 1 w'→(Instr.entryStore 88 (.map (some b)) (.int .i64 clock) (.agg ys.toArray)).run Tryz.prog w'=.ok () (withBlk w' b (.map ((es.push { key:=ptA p,val:=coinA noCoin,born:=clock }).modify es.size fun e=>{ e with val:=coinA c }) (clock+1))) from fun w' h=>by
    have:=h.run1 HM2.o HXK.o HNO.o
    rw[HYE.o];exact this)
   refine ph_value rfl (by first|rfl|go_simp) (fun k_ _ _ w_ hC_=>by first|(go_simp;rfl)|(go_simp;done)|rfl) (fun K hK=>?_);go_simp;refine hK _ ?_;clear hK K;refine ph_value rfl (by first|rfl|go_simp) (fun k_ _ _ w_ hC_=>by first|(go_simp;rfl)|(go_simp;done)|rfl) (fun K hK=>?_);go_simp;refine hK _ ?_;clear hK K;refine ph_value rfl (by first|rfl|go_simp) (fun k_ _ _ w_ hC_=>by first|(go_simp;rfl)|(go_simp;done)|rfl) (fun K hK=>?_);go_simp;refine hK _ ?_;clear hK K;refine ph_value rfl (by first|rfl|go_simp) (fun k_ _ _ w_ hC_=>by have c1:=HF.o _ _ hC_;first|(go_simp;rfl)|(go_simp;done)|rfl) (fun K hK=>?_);go_simp;refine hK _ ?_;clear hK K;refine ph_load rfl rfl rfl row_point (fun k _ _ w h=>HX1.o k w h) rfl HX.o ?_
   (intro K hK;go_simp;refine hK _ ?_;clear hK K)
   refine ph_value rfl (by first|rfl|go_simp) (fun k_ _ _ w_ hC_=>by first|(go_simp;rfl)|(go_simp;done)|rfl) (fun K hK=>?_);go_simp;refine hK _ ?_;clear hK K;refine ph_load rfl rfl rfl row_coin (fun k _ _ w h=>HX2.o k w h) rfl HY.o ?_
   (intro K hK;go_simp;refine hK _ ?_;clear hK K)
   refine ph_value rfl (by first|rfl|go_simp) (fun k_ _ _ w_ hC_=>by first|(go_simp;rfl)|(go_simp;done)|rfl) (fun K hK=>?_);go_simp;refine hK _ ?_;clear hK K;refine ph_run 0 rfl rfl rfl (by first|rfl|go_simp) (fun w' hC=>⟨_,by (have hrun:=HR0.o w' hC);first|(go_simp;rfl)|(go_simp;exact⟨rfl,rfl⟩)|go_simp,hC.entry HGB.o⟩) ?_
   (intro K hK;go_simp;refine hK _ ?_;clear hK K)
   refine ph_value rfl (by first|rfl|go_simp) (fun k_ _ _ w_ hC_=>by first|(go_simp;rfl)|(go_simp;done)|rfl) (fun K hK=>?_);go_simp;refine hK _ ?_;clear hK K;refine ph_runs 1 rfl rfl rfl (by first|rfl|go_simp) (fun w' hC=>⟨_,by (have hrun:=HR1.o w' hC);first|(go_simp;rfl)|(go_simp;exact⟨rfl,rfl⟩)|go_simp,hC.fill HGB.o⟩) ?_
   (intro K hK;go_simp;refine hK _ ?_;clear hK K)
   refine ph_value rfl (by first|rfl|go_simp) (fun k_ _ _ w_ hC_=>by first|(go_simp;rfl)|(go_simp;done)|rfl) (fun K hK=>?_);go_simp;refine hK _ ?_;clear hK K;refine ph_value rfl (by first|rfl|go_simp) (fun k_ _ _ w_ hC_=>by first|(go_simp;rfl)|(go_simp;done)|rfl) (fun K hK=>?_);go_simp;refine hK _ ?_;clear hK K;refine ph_runs 2 rfl rfl rfl (by first|rfl|go_simp) (fun w' hC=>⟨_,by (have hcl:=hC.2.2.2.at_ (i:=1) rfl);(have hfz:=hC.2.2.2.frozen 1);first|(go_simp;rfl)|(go_simp;exact⟨rfl,rfl⟩)|go_simp,hC.sum HGB.o⟩) ?_
   (intro K hK;go_simp;refine hK _ ?_;clear hK K)
   refine ph_nil ?_;intro w5 hC5;have HC5:=kp hC5;clear hC5;go_wp2_with fail;go_ret
   refine⟨ret_int (HE.o.trans H6.o).symm,HT4.o.trans HC5.o.1,fun _=>HC5.o.done HGB.o HM2.o HXK.o HNO.o HM3.o HLO.o,fun h=>absurd (HE.o.trans H6.o) h⟩
  ·have hb6:(ec != 0)=true:=bne_iff_ne.2 h6;have H6:=kp h6;clear h6;go_wp2_with fail;go_ret
   exact⟨ret_int HE.o.symm,HT4.o,fun h=>absurd (HE.o.symm.trans h) H6.o,fun _=>HC4.o⟩
end Go.Proofs.YtnnjjbkdjkjnpaaGreatDoor

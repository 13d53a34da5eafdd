/- The contract of tx.Put. Printed by mkput.py. -/
import Derived.Test.YtnnjjbkdjkjnpaaGreatDoorSpendPlaysRb15
set_option linter.unusedSimpArgs false
set_option linter.unusedVariables false
set_option maxRecDepth 100000
set_option maxHeartbeats 16000000
namespace Go.Proofs.YtnnjjbkdjkjnpaaGreatDoor
open Go.RowKit Go.Shelf
theorem tput_any {A : Option Addr} {n c : Nat} {A2 : Option Addr} {n2 c2 : Nat} {fee ex : Int} {l : List (Value × Inp)} {os : List Outp} (w : World) (hi : InsAt w A n c l) (ho : OutsAt w A2 n2 c2 os) (hn : n ≤ 100000) (hn2 : n2 ≤ 100000) (hf : U64 fee) (hex : I64 ex) :
  Calls Tryz.prog 75 #[.agg (txV A n c A2 n2 c2 fee ex).toArray] w fun e w'=>∃A' c',e=.returned (.tuple #[.slice A' (tformB ⟨l.map Prod.snd,os,fee,ex⟩).length c',.int .i64 (checkT ⟨l.map Prod.snd,os,fee,ex⟩)])∧Sl w' w'.heap.size 1 A' (tformB ⟨l.map Prod.snd,os,fee,ex⟩).length ((tformB ⟨l.map Prod.snd,os,fee,ex⟩).map B)∧(tformB ⟨l.map Prod.snd,os,fee,ex⟩).length≤c'∧Grow w w':=by
 have HI:=kp hi;have HO:=kp ho;have HTC:=kp (txV_cl (A:=A) (n:=n) (c:=c) (A2:=A2) (n2:=n2) (c2:=c2) (fee:=fee) (ex:=ex));have HT0:=kq ((txV A n c A2 n2 c2 fee ex)[0]? = some (.slice A n c)) rfl;have HT1:=kq ((txV A n c A2 n2 c2 fee ex)[1]? = some (.slice A2 n2 c2)) rfl;have HT2:=kq ((txV A n c A2 n2 c2 fee ex)[2]? = some (.int .u64 fee)) rfl;have HT3:=kq ((txV A n c A2 n2 c2 fee ex)[3]? = some (.int .i64 ex)) rfl;have HCK:=kp (fun w hi ho=>tcheck_any (A:=A) (n:=n) (c:=c) (A2:=A2) (n2:=n2) (c2:=c2) (fee:=fee) (ex:=ex) (l:=l) (os:=os) w hi ho hn hn2 hf hex);have HF:=kp hf;have HEX:=kp hex;obtain⟨t,ht⟩:=xe (Txn.mk (l.map Prod.snd) os fee ex);rw[← ht]at HCK ⊢;have HTE:=kp ht;obtain⟨ck,hck⟩:=xe (checkT t);have HCE:=kp hck;rw[← hck]at HCK ⊢;obtain⟨tf,htf⟩:=xe (tformB t);rw[← htf];have HFN:=kq (ck≠0→tf=[]) (fun h=>by rw[htf];unfold tformB;rw[if_neg (by rw[← hck];exact h)]);have HFY:=kq (ck=0→tf=putTB t) (fun h=>by rw[htf];unfold tformB;rw[if_pos (by rw[← hck];exact h)])
 have HSH:=kp (show ck=0→(1≤n∧n≤16∧1≤n2∧n2≤16∧0≤ex∧ex≤1099511627776)∧∀p∈l,p.2.secret.length≤64∧0≤p.2.index∧p.2.index≤15 from fun h=>by
  obtain⟨h1,h2⟩:=short_of (t:=t) (by rw[← hck];exact h);unfold shortT at h1;rw[ht]at h1 h2;simp only [Bool.and_eq_true,inB_iff,List.length_map]at h1;have a:=hi.2.2.1;have b:=ho.2.2.1
  exact⟨by omega,fun p hp=>h2 _ (List.mem_map_of_mem hp)⟩)
 obtain⟨tv,htv⟩:=xe (txV A n c A2 n2 c2 fee ex);rw[← htv]at HTC HT0 HT1 HT2 HT3 HCK ⊢;obtain⟨w_,hw⟩:=xe w;have HB:=kq (Below w.heap.size w w_) (by rw[hw];exact Below.refl _ _)
 suffices H:Calls Tryz.prog 75 #[.agg tv.toArray] w_ fun e w'=>∃A' c',e=.returned (.tuple #[.slice A' tf.length c',.int .i64 ck])∧Sl w' w'.heap.size 1 A' tf.length (tf.map B)∧tf.length≤c'∧Grow w w' by rw[hw]at H;exact H
 clear hw hi ho ht hck htf htv hf hex
 go_enter Tryz.func75,Tryz.ntmps75
 go_wp2_with (with_reducible first|refine wpl_box (o:=⟨some 1,_,_,_,_,_⟩) rfl rfl rfl ?_);intro v_ b_ y_ s_;have HX_:=kp (at_mk b_ HTC.o.len);clear b_ s_;have HG_:=kp HB.o.size;replace HB:=kp (HB.o.grow' y_);generalize x_:w_.heap.size=g1 at HX_ HG_ ⊢;clear x_;have HX_g:=HG_;clear HG_;have HX:=HX_;clear y_ HX_;try clear w_
 rename World=>w_;go_wp2_with (with_reducible refine wlb 10 row_tx HX.o.blk HX.o.len ?_);refine(HCK.o _ (HI.o.grow HB.o) (HO.o.grow HB.o)).mono ?_;rintro e w_ ⟨rfl,y_⟩;replace HB:=kp (HB.o.grow' y_);replace HX:=kp (HX.o.grow y_);clear y_;by_cases h0:ck=0
 ·obtain⟨hsh,hel⟩:=HSH.o h0;have HEL:=kp hel;have HSHT:=kp hsh;have hn16:n≤16:=hsh.2.1;have hm16:n2≤16:=hsh.2.2.2.1;obtain⟨fn,hfn⟩:∃q:Nat,fee=(q:Int):=⟨fee.toNat,(Int.toNat_of_nonneg HF.o.1).symm⟩;obtain⟨en,hen⟩:∃q:Nat,ex=(q:Int):=⟨ex.toNat,(Int.toNat_of_nonneg hsh.2.2.2.2.1).symm⟩;have HFU:=kq (fn≤18446744073709551615) (by have:=HF.o.2;rw[hfn]at this;omega);have HEU:=kq (en≤1099511627776) (by have:=hsh.2.2.2.2.2;rw[hen]at this;omega)
  have HPT:=kp (show tf=numB n++(l.map Prod.snd).flatMap putI++numB n2++os.flatMap putO++numB fn++numB en by
   rw[HFY.o h0,HTE.o];unfold putTB;simp only [hfn,hen,Int.toNat_natCast,List.length_map];rw[HI.o.2.2.1,HO.o.2.2.1])
  have HPI:=kp (show ∀x∈l.map Prod.snd,(putI x).length≤130 from fun x hx=>by
   obtain⟨p,hp,rfl⟩:=List.mem_map.1 hx
   exact putI_len (HI.o.2.1 p hp).2 (hel p hp).1 (hel p hp).2)
  have HPO:=kq (∀x∈os,(putO x).length≤50) (fun x hx=>putO_len (HO.o.2.1 x hx));rw[hfn]at HT2;rw[hen]at HT3;clear hsh hel hfn hen;subst h0;go_wp2_with (with_reducible first|refine wpl_alloc (o:=⟨some 5,_,_,_,_,_⟩) rfl rfl zero_pen ?_);intro w4 hb4 hbw4 hsz4;obtain⟨gp,hgp⟩:=xe w_.heap.size;have HG1:=kq (g1 < gp∧w.heap.size≤gp) (by have h1:=HX.o.lt;have h2:=HB.o.size;omega);have HX4:=kp (HX.o.grow hbw4);have HB4:=kp (HB.o.grow' hbw4);rw[← hgp]at hb4 hsz4 ⊢;have HP:=kq (PenAt w4 (K0 gp) gp []) (PenAt.new hb4 (fun k hk=>by unfold K0 at hk;omega));have HKB:=kq (KB gp w4 w4) ⟨Below.refl _ _,by omega⟩;have HXB:=kq (∀w',KB gp w4 w'→At w' g1 27 4 tv) (fun w' h=>⟨HX4.o.blk.below h.1 HG1.o.1,HX4.o.len⟩);have HBB:=kq (∀w',KB gp w4 w'→Below w.heap.size w w') (fun w' h=>HB4.o.trans (h.1.mono HG1.o.2));have HKP:=kq (∀(w':World) (xs:List UInt8),KB gp w4 w'→PenAt w' (K0 gp) gp xs→PenAt w' (Kq gp g1) gp xs) (fun w' xs h hp=>hp.plus (HXB.o _ h).blk (by decide) (by have:=HG1.o.1;omega));clear hb4 hbw4 hsz4 hgp HX HB HX4;have qn:=conv_u64' (n:=n) (by omega);have c0:=(HXB.o _ HKB.o).blk.at_ HT0.o;go_wp2_with fail;refine(num_any gp n (Kq gp g1) [] _ (HKP.o _ _ HKB.o HP.o) (by simp) (by omega)).mono ?_;rintro e v_ ⟨rfl,hp_,hk_⟩;have HP_:=kp hp_.minus;have HKB_:=kp (HKB.o.kept hk_);clear hp_ hk_ HP HKB;have HP:=HP_;have HKB:=HKB_;clear HP_ HKB_;try clear w_
  rename World=>w_;replace HP:=kq (PenAt w_ (K0 gp) gp (numB n)) HP.o;clear c0 qn;have ln:=numB_le (n:=n) (by omega);have lm:=numB_le (n:=n2) (by omega);have c0:=(HXB.o _ HKB.o).blk.at_ HT0.o;obtain⟨pre,hpre⟩:=xe (numB n);have HPR:=kp hpre;have hprl:pre.length≤9:=by rw[hpre];exact ln
  rw[← hpre]at HP HPT;clear hpre ln;obtain⟨ins,hins⟩:=xe (l.map Prod.snd);have HINS:=kp hins;have HINL:=kq (ins.length=n) (by rw[hins,List.length_map];exact HI.o.2.2.1);rw[← hins]at HPT HPI;clear hins
  go_upto_block 0 with fail
  go_cut [] from 10 (fun wr=>Hid (PenAt wr (K0 gp) gp (pre++ins.flatMap putI)∧KB gp w4 wr))
  case first =>
   go_wp2_with fail;go_loopw [23] (fun iv wr=>∃k:Nat,k≤n∧iv=.int .i64 k∧Hid (PenAt wr (K0 gp) gp (pre++(ins.take k).flatMap putI)∧KB gp w4 wr)) (fun iv _=>n - (intOf iv).toNat)
   case atStart=>exact⟨0,by omega,rfl,kp ⟨by simpa using HP.o,HKB.o⟩⟩
   case round =>
    obtain⟨k,hk,rfl,hI⟩:=hrel;clear HP HKB c0;have HP:=kp hI.o.1;have HKB:=kp hI.o.2;clear hI;rename World=>w_;by_cases hlt:k < n
    ·obtain⟨b,off,p,hA,hp,hok,hc⟩:=HI.o.at_ hlt;subst hA;have HBW:=kp (HBB.o _ HKB.o);obtain⟨hsl,hix0,hix1⟩:=HEL.o p (List.mem_of_getElem? hp);have HC:=kq (∀j u,(inV p.1 p.2)[j]? = some u→w_.cell? ⟨b,off+k*35+j,none⟩=some u) (fun j u hu=>bcell HBW.o (hc j u hu));have HPC:=kp (inV_cl hok);have HSN:=kp (fm_snoc putI (l:=ins) (k:=k) (p:=p.2) (by rw[HINS.o,List.getElem?_map,hp];rfl));obtain⟨⟨A4,c4,e4,hc4,hs4⟩,hio⟩:=hok;have HS4:=kp hs4;have HFL:=kp (fm_le putI 130 k HPI.o);have HA32:=kp (in_at (v:=p.1) hio);have HDG:=kp (dig_map hio.1)
     have HTX:=kp (show ∀(j:Nat) (u:Value),(p.2.tx.map B)[j]? = some u→(inV p.1 p.2)[0+j]? = some u from fun j u hu=>by
      rw[Nat.zero_add];unfold inV;rw[List.getElem?_append_left (List.getElem?_eq_some_iff.1 hu).1];exact hu)
     obtain⟨pv,hpv⟩:=xe (inV p.1 p.2);rw[← hpv]at HC HPC HA32 HTX;rw[e4]at HA32;obtain⟨xn,hxn⟩:∃q:Nat,p.2.index=(q:Int):=⟨p.2.index.toNat,(Int.toNat_of_nonneg hix0).symm⟩;obtain⟨an,han⟩:∃q:Nat,p.2.amount=(q:Int):=⟨p.2.amount.toNat,(Int.toNat_of_nonneg hio.2.2.1).symm⟩;have HAU:=kq (an≤18446744073709551615) (by have:=hio.2.2.2;rw[han]at this;omega);have hxb:xn≤15:=by rw[hxn]at hix1;omega
     obtain⟨sl,hsl2⟩:=xe p.2.secret.length;obtain⟨tx,htx⟩:=xe p.2.tx;obtain⟨sc,hsc⟩:=xe p.2.secret;have HPU:=kq (putI p.2=tx++numB xn++numB an++numB sl++sc) (by unfold putI;rw[hxn,han,← htx,← hsc,hsl2,hsc];simp only [Int.toNat_natCast]);have htl:tx.length=32:=by rw[htx];exact hio.1
     have hslb:sl≤64:=by rw[hsl2];exact hsl
     rw[hxn,han,← hsl2]at HA32;rw[← htx]at HTX HDG;rw[← hsl2,← hsc]at HS4;obtain⟨xs,hxs⟩:=xe (pre++(ins.take k).flatMap putI);have HXE:=kp hxs;have hxl:xs.length≤9+16*130:=by rw[hxs,List.length_append];have:=HFL.o;omega
     rw[← hxs]at HP;clear hp hc hsl hix0 hix1 e4 hc4 hs4 hio hpv hxn han hsl2 htx hsc hxs HFL HBW;have u1:=numB_le (n:=xn) (by omega);have u2:=numB_le (n:=an) HAU.o;have u3:=numB_le (n:=sl) (by omega);have HB:=kp (HBB.o _ HKB.o);go_wp2_with (with_reducible first|refine wlm 26 row_tin HC.o HPC.o.len ?_|refine wpl_alloc (o:=⟨some 7,_,_,_,_,_⟩) rfl rfl zero_tin ?_);intro w1_ hb1_ hbw1_ hsz1_;have HB1_:=kp (at_mk hb1_ len_tin);have HBW1_:=kp hbw1_;have HZ1_:=kp hsz1_;clear hb1_ hbw1_ hsz1_;go_wp2_with (with_reducible refine wsb row_tin HB1_.o.blk HB1_.o.len HPC.o.len HPC.o.one ?_);intro v_ b_ g_ s_;have y_:=var_grow HBW1_.o HZ1_.o g_;have HX_:=kp (at_mk b_ HPC.o.len);clear b_ g_ s_ HB1_ HBW1_ HZ1_;replace HB:=kp (HB.o.grow' y_);replace HP:=kp (HP.o.grow y_);replace HKB:=kp (HKB.o.grow y_);generalize x_:w_.heap.size=g7 at HX_ ⊢;clear x_;have HE:=HX_;clear y_ HX_;clear w1_;try clear w_
     rename World=>w_;clear HB HC
     have HGQ:=kp (show g7≠gp from fun e=>by
      obtain⟨_,_,h1,_⟩:=HP.o;have h2:=HE.o.blk;rw[e]at h2;unfold Blk at h1 h2;rw[h1]at h2;injection h2 with h2
      injection h2 with _ h2
      exact absurd h2 (by decide))
     replace HP:=kp (HP.o.plus HE.o.blk (by decide) HGQ.o);have HM:=kq (∀(j:Nat) (u:Value),(tx.map B)[j]? = some u→w_.cell? ⟨g7,0+j,none⟩=some u) (fun j u hu=>HE.o.blk.at_ (HTX.o j u hu));go_wp2_with (with_reducible refine wlm 29 row_id HM.o HDG.o.len ?_);clear HM;go_wp2_with fail;refine(pid_any gp (Kq gp g7) xs HDG.o _ HP.o (by omega)).mono ?_;rintro e v_ ⟨rfl,hp_,hk_⟩;have HP_:=kp hp_;have HKB_:=kp (HKB.o.kept hk_);have HE_:=kp (HE.o.kept hk_);clear hp_ hk_ HP HKB HE;have HP:=HP_;have HKB:=HKB_;have HE:=HE_;clear HP_ HKB_ HE_;try clear w_
     rename World=>w_;have c32:=HE.o.blk.at_ HA32.o.1;have q2:=conv_u64' (n:=xn) (by omega);go_wp2_with fail;refine(num_any gp xn (Kq gp g7) (xs++tx) _ HP.o (by clear q2;rw[List.length_append];omega) (by clear q2;omega)).mono ?_;rintro e v_ ⟨rfl,hp_,hk_⟩;have HP_:=kp hp_;have HKB_:=kp (HKB.o.kept hk_);have HE_:=kp (HE.o.kept hk_);clear hp_ hk_ HP HKB HE;have HP:=HP_;have HKB:=HKB_;have HE:=HE_;clear HP_ HKB_ HE_;try clear w_
     rename World=>w_;clear c32 q2;have c33:=HE.o.blk.at_ HA32.o.2.1;go_wp2_with fail;refine(num_any gp an (Kq gp g7) (xs++tx++numB xn) _ HP.o (by rw[List.length_append,List.length_append];omega) HAU.o).mono ?_;rintro e v_ ⟨rfl,hp_,hk_⟩;have HP_:=kp hp_;have HKB_:=kp (HKB.o.kept hk_);have HE_:=kp (HE.o.kept hk_);clear hp_ hk_ HP HKB HE;have HP:=HP_;have HKB:=HKB_;have HE:=HE_;clear HP_ HKB_ HE_;try clear w_
     rename World=>w_;clear c33;have c34:=HE.o.blk.at_ HA32.o.2.2;have HS5:=kp (HS4.o.below (HBB.o _ HKB.o));go_wp2_with fail;refine(ptext_any gp (Kq gp g7) (xs++tx++numB xn++numB an) _ HP.o HS5.o (fun j hj=>.inl (Nat.lt_of_lt_of_le hj HG1.o.2)) (by rw[List.length_append,List.length_append,List.length_append];omega)).mono ?_;rintro e v_ ⟨rfl,hp_,hk_⟩;have HP_:=kp hp_.minus;have HKB_:=kp (HKB.o.kept hk_);clear hp_ hk_ HP HKB HE;have HP:=HP_;have HKB:=HKB_;clear HP_ HKB_;try clear w_
     rename World=>w_;clear c34 HS5
     have HPN:=kp (show PenAt w_ (K0 gp) gp (pre++(ins.take (k+1)).flatMap putI) by
      rw[HSN.o,HPU.o,← List.append_assoc,← HXE.o];have h:=HP.o;simp only [List.append_assoc]at h ⊢
      exact h)
     clear HP u1 u2 u3;go_wp2_with fail;go_roundw
     case rel=>exact⟨k+1,by omega,by go_num,kp ⟨HPN.o,HKB.o⟩⟩
     case measure=>simp [intOf];omega
    ·obtain rfl:k=n:=by omega
     have HP_:=kq (PenAt w_ (K0 gp) gp (pre++ins.flatMap putI)) (by have h:=HP.o;rw[List.take_of_length_le (by rw[HINL.o];exact Nat.le_refl _)] at h;exact h);go_wp2_with fail
     go_meet
     case rel=>exact kp ⟨HP_.o,HKB.o⟩
  case rest =>
   clear HP HKB c0;have HP:=kp hcut.o.1;have HKB:=kp hcut.o.2;clear hcut;try clear w_
   rename World=>w_;have HFL:=kq ((ins.flatMap putI).length≤n*130) (by have h:=fm_len putI 130 ins HPI.o;rw[HINL.o]at h;exact h);obtain⟨p1,hp1⟩:=xe (pre++ins.flatMap putI);have hp1l:p1.length≤9+16*130:=by rw[hp1,List.length_append];have:=HFL.o;omega
   rw[← hp1]at HP HPT;clear hp1 HFL hprl;have c1:=(HXB.o _ HKB.o).blk.at_ HT1.o;have qm:=conv_u64' (n:=n2) (by omega);go_wp2_with fail;refine(num_any gp n2 (Kq gp g1) p1 _ (HKP.o _ _ HKB.o HP.o) (by clear qm;omega) (by clear qm;omega)).mono ?_;rintro e v_ ⟨rfl,hp_,hk_⟩;have HP_:=kp hp_.minus;have HKB_:=kp (HKB.o.kept hk_);clear hp_ hk_ HP HKB;have HP:=HP_;have HKB:=HKB_;clear HP_ HKB_;try clear w_
   rename World=>w_;clear c1 qm;obtain⟨p2,hp2⟩:=xe (p1++numB n2);have hp2l:p2.length≤18+16*130:=by rw[hp2,List.length_append];omega
   rw[← hp2]at HP HPT;clear hp2 lm hp1l;have c1:=(HXB.o _ HKB.o).blk.at_ HT1.o
   go_upto_block 2 with fail
   go_cut [] from 10 (fun wr=>Hid (PenAt wr (K0 gp) gp (p2++os.flatMap putO)∧KB gp w4 wr))
   case first =>
    go_wp2_with fail;go_loopw [51] (fun iv wr=>∃k:Nat,k≤n2∧iv=.int .i64 k∧Hid (PenAt wr (K0 gp) gp (p2++(os.take k).flatMap putO)∧KB gp w4 wr)) (fun iv _=>n2 - (intOf iv).toNat)
    case atStart=>exact⟨0,by omega,rfl,kp ⟨by simpa using HP.o,HKB.o⟩⟩
    case round =>
     obtain⟨k,hk,rfl,hI⟩:=hrel;clear HP HKB c1;have HP:=kp hI.o.1;have HKB:=kp hI.o.2;clear hI;rename World=>w_;by_cases hlt:k < n2
     ·obtain⟨b,off,p,hA,hp,hok,hc⟩:=HO.o.at_ hlt;subst hA;have HB:=kp (HBB.o _ HKB.o);have HC:=kq (∀j u,(outV p)[j]? = some u→w_.cell? ⟨b,off+k*33+j,none⟩=some u) (fun j u hu=>bcell HB.o (hc j u hu));have HPC:=kp (outV_cl hok);have HSN:=kp (fm_snoc putO hp);have HFL:=kp (fm_le putO 50 k HPO.o);have HA32:=kp (out_at hok);have HDG:=kp (dig_map hok.1)
      have HTX:=kp (show ∀(j:Nat) (u:Value),(p.owner.map B)[j]? = some u→(outV p)[0+j]? = some u from fun j u hu=>by
       rw[Nat.zero_add];unfold outV;rw[List.getElem?_append_left (List.getElem?_eq_some_iff.1 hu).1];exact hu)
      obtain⟨pv,hpv⟩:=xe (outV p);rw[← hpv]at HC HPC HA32 HTX;obtain⟨an,han⟩:∃q:Nat,p.amount=(q:Int):=⟨p.amount.toNat,(Int.toNat_of_nonneg hok.2.1).symm⟩;have HAU:=kq (an≤18446744073709551615) (by have:=hok.2.2;rw[han]at this;omega);obtain⟨tx,htx⟩:=xe p.owner;have HPU:=kq (putO p=tx++numB an) (by unfold putO;rw[han,← htx];simp only [Int.toNat_natCast]);have htl:tx.length=32:=by rw[htx];exact hok.1
      rw[han]at HA32;rw[← htx]at HTX HDG;obtain⟨xs,hxs⟩:=xe (p2++(os.take k).flatMap putO);have HXE:=kp hxs;have hxl:xs.length≤18+16*130+16*50:=by rw[hxs,List.length_append];have:=HFL.o;omega
      rw[← hxs]at HP;clear hp hc hok hpv han htx hxs HFL;have u2:=numB_le (n:=an) HAU.o;go_wp2_with (with_reducible first|refine wlm 54 row_tout HC.o HPC.o.len ?_|refine wpl_alloc (o:=⟨some 9,_,_,_,_,_⟩) rfl rfl zero_tout ?_);intro w1_ hb1_ hbw1_ hsz1_;have HB1_:=kp (at_mk hb1_ len_tout);have HBW1_:=kp hbw1_;have HZ1_:=kp hsz1_;clear hb1_ hbw1_ hsz1_;go_wp2_with (with_reducible refine wsb row_tout HB1_.o.blk HB1_.o.len HPC.o.len HPC.o.one ?_);intro v_ b_ g_ s_;have y_:=var_grow HBW1_.o HZ1_.o g_;have HX_:=kp (at_mk b_ HPC.o.len);clear b_ g_ s_ HB1_ HBW1_ HZ1_;replace HB:=kp (HB.o.grow' y_);replace HP:=kp (HP.o.grow y_);replace HKB:=kp (HKB.o.grow y_);generalize x_:w_.heap.size=g7 at HX_ ⊢;clear x_;have HE:=HX_;clear y_ HX_;clear w1_;try clear w_
      rename World=>w_;clear HB HC
      have HGQ:=kp (show g7≠gp from fun e=>by
       obtain⟨_,_,h1,_⟩:=HP.o;have h2:=HE.o.blk;rw[e]at h2;unfold Blk at h1 h2;rw[h1]at h2;injection h2 with h2
       injection h2 with _ h2
       exact absurd h2 (by decide))
      replace HP:=kp (HP.o.plus HE.o.blk (by decide) HGQ.o);have HM:=kq (∀(j:Nat) (u:Value),(tx.map B)[j]? = some u→w_.cell? ⟨g7,0+j,none⟩=some u) (fun j u hu=>HE.o.blk.at_ (HTX.o j u hu));go_wp2_with (with_reducible refine wlm 56 row_id HM.o HDG.o.len ?_);clear HM;go_wp2_with fail;refine(pid_any gp (Kq gp g7) xs HDG.o _ HP.o (by omega)).mono ?_;rintro e v_ ⟨rfl,hp_,hk_⟩;have HP_:=kp hp_;have HKB_:=kp (HKB.o.kept hk_);have HE_:=kp (HE.o.kept hk_);clear hp_ hk_ HP HKB HE;have HP:=HP_;have HKB:=HKB_;have HE:=HE_;clear HP_ HKB_ HE_;try clear w_
      rename World=>w_;have c33:=HE.o.blk.at_ HA32.o;go_wp2_with fail;refine(num_any gp an (Kq gp g7) (xs++tx) _ HP.o (by rw[List.length_append];omega) HAU.o).mono ?_;rintro e v_ ⟨rfl,hp_,hk_⟩;have HP_:=kp hp_.minus;have HKB_:=kp (HKB.o.kept hk_);clear hp_ hk_ HP HKB HE;have HP:=HP_;have HKB:=HKB_;clear HP_ HKB_;try clear w_
      rename World=>w_;clear c33
      have HPN:=kp (show PenAt w_ (K0 gp) gp (p2++(os.take (k+1)).flatMap putO) by
       rw[HSN.o,HPU.o,← List.append_assoc,← HXE.o];have h:=HP.o;simp only [List.append_assoc]at h ⊢
       exact h)
      clear HP u2;go_wp2_with fail;go_roundw
      case rel=>exact⟨k+1,by omega,by go_num,kp ⟨HPN.o,HKB.o⟩⟩
      case measure=>simp [intOf];omega
     ·obtain rfl:k=n2:=by omega
      have HP_:=kq (PenAt w_ (K0 gp) gp (p2++os.flatMap putO)) (by have h:=HP.o;rw[List.take_of_length_le (by rw[HO.o.2.2.1];exact Nat.le_refl _)] at h;exact h);go_wp2_with fail
      go_meet
      case rel=>exact kp ⟨HP_.o,HKB.o⟩
   case rest =>
    clear HP HKB c1;have HP:=kp hcut.o.1;have HKB:=kp hcut.o.2;clear hcut;try clear w_
    rename World=>w_;have HFL:=kq ((os.flatMap putO).length≤n2*50) (by have h:=fm_len putO 50 os HPO.o;rw[HO.o.2.2.1]at h;exact h);obtain⟨p3,hp3⟩:=xe (p2++os.flatMap putO);have hp3l:p3.length≤18+16*130+16*50:=by rw[hp3,List.length_append];have:=HFL.o;omega
    rw[← hp3]at HP HPT;clear hp3 HFL hp2l;have uf:=numB_le (n:=fn) HFU.o;have ue:=numB_le (n:=en) (by have:=HEU.o;omega);have c2:=(HXB.o _ HKB.o).blk.at_ HT2.o;go_wp2_with fail;refine(num_any gp fn (Kq gp g1) p3 _ (HKP.o _ _ HKB.o HP.o) (by omega) HFU.o).mono ?_;rintro e v_ ⟨rfl,hp_,hk_⟩;have HP_:=kp hp_.minus;have HKB_:=kp (HKB.o.kept hk_);clear hp_ hk_ HP HKB;have HP:=HP_;have HKB:=HKB_;clear HP_ HKB_;try clear w_
    rename World=>w_;clear c2;have c3:=(HXB.o _ HKB.o).blk.at_ HT3.o;have qe:=conv_u64' (n:=en) (by have:=HEU.o;omega);go_wp2_with fail;refine(num_any gp en (Kq gp g1) (p3++numB fn) _ (HKP.o _ _ HKB.o HP.o) (by clear qe;rw[List.length_append];omega) (by have:=HEU.o;clear qe;omega)).mono ?_;rintro e v_ ⟨rfl,hp_,hk_⟩;have HP_:=kp hp_.minus;have HKB_:=kp (HKB.o.kept hk_);clear hp_ hk_ HP HKB;have HP:=HP_;have HKB:=HKB_;clear HP_ HKB_;try clear w_
    rename World=>w_;clear c3 qe;rw[← HPT.o]at HP;have HTL:=kq (tf.length≤100000) (by rw[HPT.o];simp only [List.length_append];omega);go_wp2_with fail;refine(pbytes_any gp (K0 gp) tf _ HP.o (by have:=HTL.o;omega)).mono ?_;rintro e w6 ⟨A',c',rfl,ho,hc,hg5⟩;have HO5:=kp (Sl.of_own ho);have HC5:=kp hc;have HB6:=kq (Grow w w6) ((HBB.o _ HKB.o).grow' hg5);clear ho hc hg5;go_wp2_with fail
    go_ret2
    exact⟨A',c',rfl,HO5.o,HC5.o,HB6.o⟩
 ·have d0:(ck != 0)=true:=by simpa using h0
  have HNI:=kp (HFN.o h0);clear h0;go_wp2_with fail
  go_ret2
  refine⟨none,0,?_⟩;rw[HNI.o];exact⟨rfl,Sl.nil,Nat.le_refl _,HB.o⟩
theorem acc_put {w6 w w3 : World} {Z n m c c' : Nat} {A A' : Option Addr} {acc new : List UInt8} (hz : Grow w6 w) (hZ : Z = w6.heap.size) (ho : OwnAt w Z A n c (acc.map B)) (ho_ : w3.ownsRow Z 5 1 (.slice A' (n + m) c') (n + m) (acc.map B ++ new.map B)) (hg : w.grownBy w3 (A.map Addr.block)) :
  OwnAt w3 Z A' (n+m) c' ((acc++new).map B)∧Grow w6 w3:=by
 refine⟨by unfold OwnAt;rw[List.map_append];exact ho_,?_⟩;unfold Grow at hz ⊢;exact below_grown hz hg hz.size (fun g hg'=>by have:=own_from ho g hg';omega)
theorem nat_ofU{z:Int}(h:U64 z):∃k:Nat,z=(k:Int)∧k≤18446744073709551615∧z.toNat=k:=⟨z.toNat,by have:=h.1;omega,by have:=h.2;omega,rfl⟩
theorem own_neT{w:World}{base n c sz q:Nat}{e T:TypeId}{A:Option Addr}{xs cs:List Value}(h:w.ownsRow base e sz (.slice A n c) n xs)(hb:Blk w q T cs)(hT:T≠e):∀k,A.map Addr.block=some k→k≠q:=by
 intro k hk e1;subst e1;rcases h.2 with ⟨hv,_⟩|⟨g,cap,cur,hv,_,hh,_⟩
 ·injection hv with hA;rw[hA]at hk;cases hk
 ·injection hv with hA
  rw[hA]at hk;cases hk
  unfold Blk at hb;rw[hb]at hh;injection hh with hh
  injection hh with _ ht
  exact hT ht
theorem nat_in{z:Int}{m:Nat}(h:0≤z)(h2:z≤(m:Int)):∃k:Nat,z=(k:Int)∧k≤m∧z.toNat=k:=⟨z.toNat,by omega,by omega,rfl⟩
theorem flat_snoc{α:Type}(f:α→List UInt8){l:List α}{k:Nat}{p:α}(h:l[k]? = some p):(l.take (k+1)).flatMap f=(l.take k).flatMap f++f p:=by
 rw[take_snoc h,List.flatMap_append];simp
theorem rtput_any {A : Option Addr} {n c : Nat} {A2 : Option Addr} {n2 c2 : Nat} {fee ex : Int} {l : List (Value × Inp)} {os : List Outp} (w : World) (hi : InsAt w A n c l) (ho : OutsAt w A2 n2 c2 os) (hn : n ≤ 16) (hn2 : n2 ≤ 16) (hf : U64 fee) (hex : 0 ≤ ex ∧ ex ≤ 1099511627776) (hil : ∀ p ∈ l, p.2.secret.length ≤ 64 ∧ 0 ≤ p.2.index ∧ p.2.index ≤ 15) :
  Calls Tryz.prog 55 #[.agg (txV A n c A2 n2 c2 fee ex).toArray] w fun e w'=>∃A' c',e=.returned (.slice A' (putTB ⟨l.map Prod.snd,os,fee,ex⟩).length c')∧Sl w' w'.heap.size 1 A' (putTB ⟨l.map Prod.snd,os,fee,ex⟩).length ((putTB ⟨l.map Prod.snd,os,fee,ex⟩).map B)∧(putTB ⟨l.map Prod.snd,os,fee,ex⟩).length≤c'∧Grow w w':=by
 obtain⟨fe,rfl,hfe,hfe2⟩:=nat_ofU hf;obtain⟨xpn,rfl,hxe,hxe2⟩:=nat_in (m:=1099511627776) hex.1 hex.2;have HI:=kp hi;have HO:=kp ho;have HIL:=kp hil;have HTC:=kp (txV_cl (A:=A) (n:=n) (c:=c) (A2:=A2) (n2:=n2) (c2:=c2) (fee:=(fe:Int)) (ex:=(xpn:Int)));have HT0:=kq ((txV A n c A2 n2 c2 (fe:Int) (xpn:Int))[0]? = some (.slice A n c)) rfl;have HT1:=kq ((txV A n c A2 n2 c2 (fe:Int) (xpn:Int))[1]? = some (.slice A2 n2 c2)) rfl;have HT2:=kq ((txV A n c A2 n2 c2 (fe:Int) (xpn:Int))[2]? = some (.int .u64 (fe:Int))) rfl;have HT3:=kq ((txV A n c A2 n2 c2 (fe:Int) (xpn:Int))[3]? = some (.int .i64 (xpn:Int))) rfl
 have HPT:=kp (show putTB ⟨l.map Prod.snd,os,(fe:Int),(xpn:Int)⟩=numB n++(l.map Prod.snd).flatMap putI++numB n2++os.flatMap putO++numB fe++numB xpn by
  unfold putTB;rw[List.length_map,hi.2.2.1,ho.2.2.1]
  rfl)
 obtain⟨out,hout⟩:=xe (putTB ⟨l.map Prod.snd,os,(fe:Int),(xpn:Int)⟩);rw[← hout]at HPT ⊢;obtain⟨ins,hins⟩:=xe (l.map Prod.snd);have HINS:=kp hins;rw[← hins]at HPT;obtain⟨tv,htv⟩:=xe (txV A n c A2 n2 c2 (fe:Int) (xpn:Int));rw[← htv]at HTC HT0 HT1 HT2 HT3 ⊢;have HIL2:=kq (ins.length=n) (by rw[hins,List.length_map];exact hi.2.2.1);have HOL2:=kp ho.2.2.1;clear hi ho hf hex hil hfe2 hxe2 hout hins htv;refine bq (fun w_ HB=>?_)
 go_enter Tryz.func55,Tryz.ntmps55
 go_wp2_with (with_reducible first|refine wpl_box (o:=⟨some 1,_,_,_,_,_⟩) rfl rfl rfl ?_);intro v_ b_ y_ s_;have HX_:=kp (at_mk b_ HTC.o.len);clear b_ s_;have HG_:=kp HB.o.size;replace HB:=kp (HB.o.grow' y_);generalize x_:w_.heap.size=g1 at HX_ HG_ ⊢;clear x_;have HX_g:=HG_;clear HG_;have HX:=HX_;clear y_ HX_;try clear w_
 rename World=>w_;have HI6:=kp (HI.o.grow HB.o);have HO6:=kp (HO.o.grow HB.o);have HB6:=kp HB.o;obtain⟨w6,hw6⟩:=xe w_;have HG:=kq (Grow w6 w_) (by rw[hw6];exact Grow.refl _);rw[← hw6]at HI6 HO6 HB6 HX;obtain⟨Z,hZ⟩:=xe w6.heap.size;have HZ:=kp hZ;clear hZ hw6 HB HI HO;obtain⟨mn,hmn⟩:=xe ((numB n).length);have lmn:mn≤9:=by rw[hmn];exact numB_le (by omega)
 obtain⟨mo,hmo⟩:=xe ((numB n2).length);have lmo:mo≤9:=by rw[hmo];exact numB_le (by omega)
 obtain⟨mf,hmf⟩:=xe ((numB fe).length);have lmf:mf≤9:=by rw[hmf];exact numB_le (by omega)
 obtain⟨mx,hmx⟩:=xe ((numB xpn).length);have lmx:mx≤9:=by rw[hmx];exact numB_le (by omega)
 have HRN:=kp (fun w=>rnum_any n w (by omega));have HRO:=kp (fun w=>rnum_any n2 w (by omega));have HRF:=kp (fun w=>rnum_any fe w (by omega));have HRX:=kp (fun w=>rnum_any xpn w (by omega));rw[← hmn]at HRN;rw[← hmo]at HRO;rw[← hmf]at HRF;rw[← hmx]at HRX;clear hmn hmo hmf hmx;have c0:=(HX.o.grow HG.o).blk.at_ HT0.o;have q1:=conv_u64' (n:=n) (by omega);go_wp2_with fail;refine(HRN.o _).mono ?_;rintro e v_ ⟨A7,c7,rfl,ho_,hc_,y_⟩;have HW:=kq (OwnAt v_ Z A7 mn c7 ((numB n).map B)) (own_base ho_ (by rw[HZ.o];exact HG.o.size));replace HG:=kp (HG.o.grow' y_);clear ho_ hc_ y_ q1 c0;try clear w_
 rename World=>w_;have HK1:=kq (numB n=numB n++(ins.take 0).flatMap putI) (by simp)
 go_upto_block 0 with fail
 go_cut [3] from 7 (fun s3 wr=>∃A3 m c3,s3=.slice A3 m c3∧m≤9+16*130∧Hid (OwnAt wr Z A3 m c3 ((numB n++ins.flatMap putI).map B)∧Grow w6 wr))
 case first =>
  go_wp2_with fail;go_loopw [3,4] (fun s3 iv wr=>∃k:Nat,∃A3 m c3 acc,k≤n∧iv=.int .i64 k∧s3=.slice A3 m c3∧m≤9+k*130∧Hid (OwnAt wr Z A3 m c3 (acc.map B)∧acc=numB n++(ins.take k).flatMap putI∧Grow w6 wr)) (fun _ iv _=>n - (intOf iv).toNat)
  case atStart=>exact⟨0,A7,mn,c7,numB n,by omega,rfl,rfl,by omega,kp ⟨HW.o,HK1.o,HG.o⟩⟩
  case round =>
   obtain⟨k,A3,m,c3,acc,hk,rfl,rfl,hm,hI⟩:=hrel;clear HW HG HK1;have HW:=kp hI.o.1;have HAC:=kp hI.o.2.1;have HG:=kp hI.o.2.2;clear hI;rename World=>w_;by_cases hlt:k < n
   ·obtain⟨b,off,p,rfl,hp,hok,hc⟩:=HI6.o.at_ hlt;have HIP:=kp (HIL.o p (List.mem_of_getElem? hp));have HSN:=kp (flat_snoc putI (l:=ins) (k:=k) (p:=p.2) (by rw[HINS.o,List.getElem?_map,hp];rfl));obtain⟨⟨As,cs,es,hsc,hss⟩,hio⟩:=hok;obtain⟨ix,hix,hixl,hix2⟩:=nat_in (m:=15) HIP.o.2.1 HIP.o.2.2;obtain⟨am,ham,haml,ham2⟩:=nat_ofU hio.2.2;obtain⟨sl,hsl⟩:=xe p.2.secret.length;obtain⟨sc,hsec⟩:=xe p.2.secret;obtain⟨tx,htx⟩:=xe p.2.tx;have HPI:=kq (putI p.2=tx++numB ix++numB am++numB sl++sc) (by unfold putI;rw[hix2,ham2,← hsl,← hsec,← htx]);have hsl64:sl≤64:=by rw[hsl];exact HIP.o.1
    have HDT:=kq (Dig (tx.map B) tx) ⟨rfl,by rw[htx];exact hio.1⟩;have HC:=kq (∀j u,(inV p.1 p.2)[j]? = some u→w_.cell? ⟨b,off+k*35+j,none⟩=some u) (fun j u hu=>bcell HG.o (hc j u hu));have HPC:=kq (Cl 35 (inV p.1 p.2)) (inV_cl (w:=w6) (Bd:=w6.heap.size) ⟨⟨As,cs,es,hsc,hss⟩,hio⟩);have HE32:=kq ((inV p.1 p.2)[32]? = some (.int .i64 (ix:Int))) (by rw[(in_at hio).1,hix]);have HE33:=kq ((inV p.1 p.2)[33]? = some (.int .u64 (am:Int))) (by rw[(in_at hio).2.1,ham]);have HE34:=kq ((inV p.1 p.2)[34]? = some (.slice As sl cs)) (by rw[(in_at hio).2.2,es,hsl]);have HET:=kq (∀j u,(tx.map B)[j]? = some u→(inV p.1 p.2)[0+j]? = some u) (fun j u hu=>by rw[Nat.zero_add];unfold inV;rw[← htx,List.getElem?_append_left (List.getElem?_eq_some_iff.1 hu).1];exact hu);have HSS:=kq (Sl w6 w6.heap.size 1 As sl (sc.map B)) (by rw[hsl,hsec];exact hss);obtain⟨pv,hpv⟩:=xe (inV p.1 p.2);rw[← hpv]at HC HPC HE32 HE33 HE34 HET;obtain⟨tb,htb⟩:=xe (tx.map B);have HTB:=kp htb;rw[← htb]at HDT HET;obtain⟨mi,hmi⟩:=xe ((numB ix).length);have lmi:mi≤9:=by rw[hmi];exact numB_le (by omega)
    obtain⟨ma,hma⟩:=xe ((numB am).length);have lma:ma≤9:=by rw[hma];exact numB_le (by omega)
    obtain⟨ms,hms⟩:=xe ((numB sl).length);have lms:ms≤9:=by rw[hms];exact numB_le (by omega)
    have HRI:=kp (fun w=>rnum_any ix w (by omega));have HRA:=kp (fun w=>rnum_any am w (by omega));have HRS:=kp (fun w=>rnum_any sl w (by omega));rw[← hmi]at HRI;rw[← hma]at HRA;rw[← hms]at HRS;clear hmi hma hms hp hc es hsc hss hio hix hix2 ham ham2 hsl hsec htx hpv htb;have HB:=kq (Below w6.heap.size w6 w_) HG.o;have c0:=(HX.o.grow HG.o).blk.at_ HT0.o;clear HG;go_wp2_with (with_reducible first|refine wlm 23 row_tin HC.o HPC.o.len ?_|refine wpl_alloc (o:=⟨some 5,_,_,_,_,_⟩) rfl rfl zero_tin ?_);intro w1_ hb1_ hbw1_ hsz1_;have HB1_:=kp (at_mk hb1_ len_tin);have HBW1_:=kp hbw1_;have HZ1_:=kp hsz1_;clear hb1_ hbw1_ hsz1_;go_wp2_with (with_reducible refine wsb row_tin HB1_.o.blk HB1_.o.len HPC.o.len HPC.o.one ?_);intro v_ b_ g_ s_;have y_:=var_grow HBW1_.o HZ1_.o g_;have HX_:=kp (at_mk b_ HPC.o.len);clear b_ g_ s_ HB1_ HBW1_ HZ1_;replace HB:=kp (HB.o.grow' y_);replace HW:=kp (HW.o.grow y_);generalize x_:w_.heap.size=g5 at HX_ ⊢;clear x_;have HE:=HX_;clear y_ HX_;clear w1_;try clear w_
    rename World=>w_;have HG:=kq (Grow w6 w_) HB.o;clear HB HC c0;have hmb:m≤2090:=by omega
    have HMT:=kq (∀j u,tb[j]? = some u→w_.cell? ⟨g5,0+j,none⟩=some u) (fun j u hu=>HE.o.blk.at_ (HET.o j u hu));go_wp2_with (with_reducible refine wlm 27 row_id HMT.o HDT.o.len ?_);clear HMT;go_wp2_with fail;refine(tbytes_any HDT.o _).mono ?_;rintro e v_ ⟨A7,c7,rfl,hs_,hc_,y_⟩;have HSL:=kp hs_;clear hs_ hc_;replace HG:=kp (HG.o.grow' y_);replace HW:=kp (HW.o.grow y_);replace HE:=kp (HE.o.grow y_);clear y_;try clear w_
    rename World=>w_;have HZB:=kq (Z≤w_.heap.size) (by rw[HZ.o];exact HG.o.size);have HALL:=kp (all_bytes (tx));go_wp2_with (at_builtin;refine wpl_apps rfl rfl el_u8 HW.o rfl HSL.o rfl HALL.o (by omega) (by omega) HZB.o ?_);intro A8 c8 w3_ ho_ x_ hA_;have hst:=acc_put HG.o HZ.o HW.o ho_ x_;have HE_:=kp (at_mk (HE.o.blk.grown x_ (fun e=>own_neT HW.o HE.o.blk (by decide) _ e.symm rfl)) HE.o.len);obtain⟨m2,hm2⟩:=xe (m+32);obtain⟨a2,ha2⟩:=xe (acc++tx);have hb2:m2≤m+32:=by omega
    rw[← hm2,← ha2]at hst;rw[← hm2];have HK2:=kp ha2;clear ho_ x_ hA_ HW HG HSL HZB HALL;have HW:=kp hst.1;have HG:=kp hst.2;clear hst hm2 ha2;clear HE;have HE:=HE_;clear HE_;try clear w_
    rename World=>w_;have c1:=HE.o.blk.at_ HE32.o;have q1:=conv_u64' (n:=ix) (by omega);go_wp2_with fail;refine(HRI.o _).mono ?_;rintro e v_ ⟨A7,c7,rfl,ho_,hc_,y_⟩;have HSL:=kp (Sl.of_own ho_);clear ho_ hc_;replace HG:=kp (HG.o.grow' y_);replace HW:=kp (HW.o.grow y_);replace HE:=kp (HE.o.grow y_);clear y_;try clear w_
    rename World=>w_;clear c1 q1;have HZB:=kq (Z≤w_.heap.size) (by rw[HZ.o];exact HG.o.size);have HALL:=kp (all_bytes (numB ix));go_wp2_with (at_builtin;refine wpl_apps rfl rfl el_u8 HW.o rfl HSL.o rfl HALL.o (by omega) (by omega) HZB.o ?_);intro A8 c8 w3_ ho_ x_ hA_;have hst:=acc_put HG.o HZ.o HW.o ho_ x_;have HE_:=kp (at_mk (HE.o.blk.grown x_ (fun e=>own_neT HW.o HE.o.blk (by decide) _ e.symm rfl)) HE.o.len);obtain⟨m3,hm3⟩:=xe (m2+mi);obtain⟨a3,ha3⟩:=xe (a2++numB ix);have hb3:m3≤m+41:=by omega
    rw[← hm3,← ha3]at hst;rw[← hm3];have HK3:=kp ha3;clear ho_ x_ hA_ HW HG HSL HZB HALL;have HW:=kp hst.1;have HG:=kp hst.2;clear hst hm3 ha3;clear HE;have HE:=HE_;clear HE_;try clear w_
    rename World=>w_;have c1:=HE.o.blk.at_ HE33.o;go_wp2_with fail;refine(HRA.o _).mono ?_;rintro e v_ ⟨A7,c7,rfl,ho_,hc_,y_⟩;have HSL:=kp (Sl.of_own ho_);clear ho_ hc_;replace HG:=kp (HG.o.grow' y_);replace HW:=kp (HW.o.grow y_);replace HE:=kp (HE.o.grow y_);clear y_;try clear w_
    rename World=>w_;clear c1;have HZB:=kq (Z≤w_.heap.size) (by rw[HZ.o];exact HG.o.size);have HALL:=kp (all_bytes (numB am));go_wp2_with (at_builtin;refine wpl_apps rfl rfl el_u8 HW.o rfl HSL.o rfl HALL.o (by omega) (by omega) HZB.o ?_);intro A8 c8 w3_ ho_ x_ hA_;have hst:=acc_put HG.o HZ.o HW.o ho_ x_;have HE_:=kp (at_mk (HE.o.blk.grown x_ (fun e=>own_neT HW.o HE.o.blk (by decide) _ e.symm rfl)) HE.o.len);obtain⟨m4,hm4⟩:=xe (m3+ma);obtain⟨a4,ha4⟩:=xe (a3++numB am);have hb4:m4≤m+50:=by omega
    rw[← hm4,← ha4]at hst;rw[← hm4];have HK4:=kp ha4;clear ho_ x_ hA_ HW HG HSL HZB HALL;have HW:=kp hst.1;have HG:=kp hst.2;clear hst hm4 ha4;clear HE;have HE:=HE_;clear HE_;try clear w_
    rename World=>w_;have c1:=HE.o.blk.at_ HE34.o;have q1:=conv_u64' (n:=sl) (by omega);go_wp2_with fail;refine(HRS.o _).mono ?_;rintro e v_ ⟨A7,c7,rfl,ho_,hc_,y_⟩;have HSL:=kp (Sl.of_own ho_);clear ho_ hc_;replace HG:=kp (HG.o.grow' y_);replace HW:=kp (HW.o.grow y_);replace HE:=kp (HE.o.grow y_);clear y_;try clear w_
    rename World=>w_;clear c1 q1;have HZB:=kq (Z≤w_.heap.size) (by rw[HZ.o];exact HG.o.size);have HALL:=kp (all_bytes (numB sl));go_wp2_with (at_builtin;refine wpl_apps rfl rfl el_u8 HW.o rfl HSL.o rfl HALL.o (by omega) (by omega) HZB.o ?_);intro A8 c8 w3_ ho_ x_ hA_;have hst:=acc_put HG.o HZ.o HW.o ho_ x_;have HE_:=kp (at_mk (HE.o.blk.grown x_ (fun e=>own_neT HW.o HE.o.blk (by decide) _ e.symm rfl)) HE.o.len);obtain⟨m5,hm5⟩:=xe (m4+ms);obtain⟨a5,ha5⟩:=xe (a4++numB sl);have hb5:m5≤m+59:=by omega
    rw[← hm5,← ha5]at hst;rw[← hm5];have HK5:=kp ha5;clear ho_ x_ hA_ HW HG HSL HZB HALL;have HW:=kp hst.1;have HG:=kp hst.2;clear hst hm5 ha5;clear HE;have HE:=HE_;clear HE_;try clear w_
    rename World=>w_;have c1:=HE.o.blk.at_ HE34.o;have HSL:=kp (HSS.o.grow HG.o);have HZB:=kq (Z≤w_.heap.size) (by rw[HZ.o];exact HG.o.size);have HALL:=kp (all_bytes sc);have v1:IntKind.i64.wrap ((k:Int)+1)=(k:Int)+1:=IntWalk.i64_in _ (by omega);go_wp2_with (at_builtin;refine wpl_apps rfl rfl el_u8 HW.o rfl HSL.o rfl HALL.o (by clear v1;omega) (by clear v1;omega) HZB.o ?_);intro A8 c8 w3_ ho_ x_ hA_;have hst:=acc_put HG.o HZ.o HW.o ho_ x_;have HAN:=kq (a5++sc=numB n++(ins.take (k+1)).flatMap putI) (by rw[HSN.o,HPI.o,HK5.o,HK4.o,HK3.o,HK2.o,HAC.o];simp only [List.append_assoc]);have HREL:=kq (OwnAt w3_ Z A8 (m5+sl) c8 ((a5++sc).map B)∧a5++sc=numB n++(ins.take (k+1)).flatMap putI∧Grow w6 w3_) ⟨hst.1,HAN.o,hst.2⟩;clear ho_ x_ hA_ hst HW HG HSL HZB HALL HE c1;have HBD:=kq (m5+sl≤9+(k+1)*130) (by clear v1;omega);go_wp2_with fail;go_roundw
    all_goals clear v1
    case rel=>exact⟨k+1,A8,m5+sl,c8,a5++sc,by omega,by go_num,by first|rfl|simp,HBD.o,HREL⟩
    case measure=>simp [intOf];omega
   ·obtain rfl:k=n:=by omega
    have HWN:=kq (OwnAt w_ Z A3 m c3 ((numB k++ins.flatMap putI).map B)) (by have h:=HW.o;rw[HAC.o,List.take_of_length_le (by rw[HIL2.o];exact Nat.le_refl _)] at h;exact h);have c0:=(HX.o.grow HG.o).blk.at_ HT0.o;go_wp2_with fail
    go_meet
    case rel=>exact⟨A3,m,c3,rfl,by omega,kp ⟨HWN.o,HG.o⟩⟩
 case rest =>
  obtain⟨A3,m,c3,rfl,hm,hI⟩:=hcut;clear HW HG HK1;have HW:=kp hI.o.1;have HG:=kp hI.o.2;clear hI;try clear w_
  rename World=>w_;obtain⟨acc,hacc⟩:=xe (numB n++ins.flatMap putI);have HAC:=kp hacc;rw[← hacc]at HW;clear hacc;have hm0:m≤2089:=by omega
  have c1:=(HX.o.grow HG.o).blk.at_ HT1.o;have q1:=conv_u64' (n:=n2) (by omega);go_wp2_with fail;refine(HRO.o _).mono ?_;rintro e v_ ⟨A7,c7,rfl,ho_,hc_,y_⟩;have HSL:=kp (Sl.of_own ho_);clear ho_ hc_;replace HG:=kp (HG.o.grow' y_);replace HW:=kp (HW.o.grow y_);clear y_;try clear w_
  rename World=>w_;clear c1 q1;have HZB:=kq (Z≤w_.heap.size) (by rw[HZ.o];exact HG.o.size);have HALL:=kp (all_bytes (numB n2));go_wp2_with (at_builtin;refine wpl_apps rfl rfl el_u8 HW.o rfl HSL.o rfl HALL.o (by omega) (by omega) HZB.o ?_);intro A8 c8 w3_ ho_ x_ hA_;have hst:=acc_put HG.o HZ.o HW.o ho_ x_;obtain⟨m6,hm6⟩:=xe (m+mo);obtain⟨a6,ha6⟩:=xe (acc++numB n2);have hb6:m6≤2098:=by omega
  rw[← hm6,← ha6]at hst;rw[← hm6];have HK6:=kp ha6;clear ho_ x_ hA_ HW HG HSL HZB HALL;have HW:=kp hst.1;have HG:=kp hst.2;clear hst hm6 ha6;try clear w_
  rename World=>w_;have c1:=(HX.o.grow HG.o).blk.at_ HT1.o;have HZ2:=kq (a6=a6++(os.take 0).flatMap putO) (by simp);go_wp2_with fail;go_loopw [3,6] (fun s3 iv wr=>∃k:Nat,∃A3 mm c3 ac,k≤n2∧iv=.int .i64 k∧s3=.slice A3 mm c3∧mm≤2098+k*41∧Hid (OwnAt wr Z A3 mm c3 (ac.map B)∧ac=a6++(os.take k).flatMap putO∧Grow w6 wr)) (fun _ iv _=>n2 - (intOf iv).toNat)
  case atStart=>exact⟨0,_,_,_,a6,by omega,rfl,rfl,by omega,kp ⟨HW.o,HZ2.o,HG.o⟩⟩
  case round =>
   obtain⟨k,A3,mm,c3,ac,hk,rfl,rfl,hmm,hI⟩:=hrel;clear HW HG HZ2 c1;have HW:=kp hI.o.1;have HAQ:=kp hI.o.2.1;have HG:=kp hI.o.2.2;clear hI;rename World=>w_;have c1:=(HX.o.grow HG.o).blk.at_ HT1.o;by_cases hlt:k < n2
   ·obtain⟨b,off,p,rfl,hp,hok,hc⟩:=HO6.o.at_ hlt;have HSN:=kp (flat_snoc putO hp);obtain⟨am,ham,haml,ham2⟩:=nat_ofU hok.2;obtain⟨ow,how⟩:=xe p.owner;have HPI:=kq (putO p=ow++numB am) (by unfold putO;rw[ham2,← how]);have HDT:=kq (Dig (ow.map B) ow) ⟨rfl,by rw[how];exact hok.1⟩;have hw33:=hc 32 _ (out_at hok);rw[ham]at hw33;have HW33:=kp hw33;have HMT:=kq (∀j u,(ow.map B)[j]? = some u→w_.cell? ⟨b,off+k*33+j,none⟩=some u) (fun j u hu=>bcell HG.o (hc j u (by unfold outV;rw[← how,List.getElem?_append_left (List.getElem?_eq_some_iff.1 hu).1];exact hu)));obtain⟨tb,htb⟩:=xe (ow.map B);rw[← htb]at HDT HMT;obtain⟨ma,hma⟩:=xe ((numB am).length);have lma:ma≤9:=by rw[hma];exact numB_le (by omega)
    have HRA:=kp (fun w=>rnum_any am w (by omega));rw[← hma]at HRA;have hmb:mm≤2754:=by omega
    clear hma hp hc hok hw33 ham ham2 how htb;go_wp2_with (with_reducible refine wlm 73 row_id HMT.o HDT.o.len ?_);clear HMT;go_wp2_with fail;refine(tbytes_any HDT.o _).mono ?_;rintro e v_ ⟨A7,c7,rfl,hs_,hc_,y_⟩;have HSL:=kp hs_;clear hs_ hc_;replace HG:=kp (HG.o.grow' y_);replace HW:=kp (HW.o.grow y_);clear y_;try clear w_
    rename World=>w_;clear c1;have HZB:=kq (Z≤w_.heap.size) (by rw[HZ.o];exact HG.o.size);have HALL:=kp (all_bytes (ow));go_wp2_with (at_builtin;refine wpl_apps rfl rfl el_u8 HW.o rfl HSL.o rfl HALL.o (by omega) (by omega) HZB.o ?_);intro A8 c8 w3_ ho_ x_ hA_;have hst:=acc_put HG.o HZ.o HW.o ho_ x_;obtain⟨m7,hm7⟩:=xe (mm+32);obtain⟨a7,ha7⟩:=xe (ac++ow);have hb7:m7≤mm+32:=by omega
    rw[← hm7,← ha7]at hst;rw[← hm7];have HK7:=kp ha7;clear ho_ x_ hA_ HW HG HSL HZB HALL;have HW:=kp hst.1;have HG:=kp hst.2;clear hst hm7 ha7;try clear w_
    rename World=>w_;have c1:=(HX.o.grow HG.o).blk.at_ HT1.o;have c33:=bcell HG.o HW33.o;go_wp2_with fail;refine(HRA.o _).mono ?_;rintro e v_ ⟨A7,c7,rfl,ho_,hc_,y_⟩;have HSL:=kp (Sl.of_own ho_);clear ho_ hc_;replace HG:=kp (HG.o.grow' y_);replace HW:=kp (HW.o.grow y_);clear y_;try clear w_
    rename World=>w_;clear c1 c33;have HZB:=kq (Z≤w_.heap.size) (by rw[HZ.o];exact HG.o.size);have HALL:=kp (all_bytes (numB am));have c1:=(HX.o.grow HG.o).blk.at_ HT1.o;go_wp2_with (at_builtin;refine wpl_apps rfl rfl el_u8 HW.o rfl HSL.o rfl HALL.o (by omega) (by omega) HZB.o ?_);intro A8 c8 w3_ ho_ x_ hA_;have hst:=acc_put HG.o HZ.o HW.o ho_ x_;have HAN:=kq (a7++numB am=a6++(os.take (k+1)).flatMap putO) (by rw[HSN.o,HPI.o,HK7.o,HAQ.o];simp only [List.append_assoc]);have HREL:=kq (OwnAt w3_ Z A8 (m7+ma) c8 ((a7++numB am).map B)∧a7++numB am=a6++(os.take (k+1)).flatMap putO∧Grow w6 w3_) ⟨hst.1,HAN.o,hst.2⟩;have HBD:=kq (m7+ma≤2098+(k+1)*41) (by omega);have HG3:=kp hst.2;clear ho_ x_ hA_ hst HW HG HSL HZB HALL c1;have c1:=(HX.o.grow HG3.o).blk.at_ HT1.o;have v1:IntKind.i64.wrap ((k:Int)+1)=(k:Int)+1:=IntWalk.i64_in _ (by omega);go_wp2_with fail;go_roundw
    all_goals clear v1
    case rel=>exact⟨k+1,A8,m7+ma,c8,a7++numB am,by omega,by go_num,by first|rfl|simp,HBD.o,HREL⟩
    case measure=>simp [intOf];omega
   ·obtain rfl:k=n2:=by omega
    have HAE:=kq (ac=a6++os.flatMap putO) (by have h:=HAQ.o;rw[List.take_of_length_le (by rw[HOL2.o];exact Nat.le_refl _)] at h;exact h);have hmb:mm≤2754:=by omega
    have c2:=(HX.o.grow HG.o).blk.at_ HT2.o;go_wp2_with fail;refine(HRF.o _).mono ?_;rintro e v_ ⟨A7,c7,rfl,ho_,hc_,y_⟩;have HSL:=kp (Sl.of_own ho_);clear ho_ hc_;replace HG:=kp (HG.o.grow' y_);replace HW:=kp (HW.o.grow y_);clear y_;try clear w_
    rename World=>w_;clear c1 c2;have HZB:=kq (Z≤w_.heap.size) (by rw[HZ.o];exact HG.o.size);have HALL:=kp (all_bytes (numB fe));go_wp2_with (at_builtin;refine wpl_apps rfl rfl el_u8 HW.o rfl HSL.o rfl HALL.o (by omega) (by omega) HZB.o ?_);intro A8 c8 w3_ ho_ x_ hA_;have hst:=acc_put HG.o HZ.o HW.o ho_ x_;obtain⟨m8,hm8⟩:=xe (mm+mf);obtain⟨a8,ha8⟩:=xe (ac++numB fe);have hb8:m8≤2763:=by omega
    rw[← hm8,← ha8]at hst;rw[← hm8];have HK8:=kp ha8;clear ho_ x_ hA_ HW HG HSL HZB HALL;have HW:=kp hst.1;have HG:=kp hst.2;clear hst hm8 ha8;try clear w_
    rename World=>w_;have c3:=(HX.o.grow HG.o).blk.at_ HT3.o;have q1:=conv_u64' (n:=xpn) (by omega);go_wp2_with fail;refine(HRX.o _).mono ?_;rintro e v_ ⟨A7,c7,rfl,ho_,hc_,y_⟩;have HSL:=kp (Sl.of_own ho_);clear ho_ hc_;replace HG:=kp (HG.o.grow' y_);replace HW:=kp (HW.o.grow y_);clear y_;try clear w_
    rename World=>w_;clear c3 q1;have HZB:=kq (Z≤w_.heap.size) (by rw[HZ.o];exact HG.o.size);have HALL:=kp (all_bytes (numB xpn));go_wp2_with (at_builtin;refine wpl_apps rfl rfl el_u8 HW.o rfl HSL.o rfl HALL.o (by omega) (by omega) HZB.o ?_);intro A8 c8 w3_ ho_ x_ hA_;have hst:=acc_put HG.o HZ.o HW.o ho_ x_;obtain⟨m9,hm9⟩:=xe (m8+mx);obtain⟨a9,ha9⟩:=xe (a8++numB xpn);have hb9:m9≤2772:=by omega
    rw[← hm9,← ha9]at hst;rw[← hm9];have HK9:=kp ha9;clear ho_ x_ hA_ HW HG HSL HZB HALL;have HW:=kp hst.1;have HG:=kp hst.2;clear hst hm9 ha9;try clear w_
    rename World=>w_;have HLEN:=kq (a9.length=m9) (by have:=HW.o.1;simp at this;omega);have HEQ:=kq (out=a9) (by rw[HPT.o,HK9.o,HK8.o,HAE.o,HK6.o,HAC.o]);have HSF:=kp (Sl.of_own HW.o);have HCF:=kp (own_cap1 HW.o);go_wp2_with fail;go_ret
    refine⟨A8,_,by rw[HEQ.o,HLEN.o];rfl,by rw[HEQ.o,HLEN.o];exact HSF.o,by rw[HEQ.o,HLEN.o];exact HCF.o,?_⟩;exact below_chain HB6.o HG.o
end Go.Proofs.YtnnjjbkdjkjnpaaGreatDoor

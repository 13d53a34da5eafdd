/- The contract of the pen's Num. Printed by mkpen.py. -/
import Derived.Test.YtnnjjbkdjkjnpaaGreatDoorSpendPlaysRb12
import Derived.Lib.SliceRun
import Derived.Laws.Cover3
set_option linter.unusedSimpArgs false
set_option linter.unusedVariables false
set_option maxRecDepth 100000
set_option maxHeartbeats 16000000
namespace Go.Proofs.YtnnjjbkdjkjnpaaGreatDoor
open Go.RowKit Go.Shelf
attribute [local go_sem] Oper.semAt_some
section
variable {P:Program} {ops:Array Oper} {Fut:World→World→Prop} {cl:List Nat} {Q:Exit→Act→World→Prop} {o:Oper} {i:Nat} {t:Plan} {a:Act} {w:World}
theorem pl_loadF {T : TypeId} {x : Operand} {p : Addr} {v : Value} (hi : ops[i]? = some o) (hc : plCls cl i = 1) (hw : Region.wanted o (yielded ops a.tmps) = true) (ho : o.op = .load T x) (hx : a.eval x = .pointer (some p))
  (hT:(match P.underlying T with|some (.struct _)|some (.array _ _)=>false|some _=>true|none=>false)=true) (hv:w.cell? p=some v) (hF:∀w',Fut w w'→w'.heap[p.block]? = w.heap[p.block]?)
  (hk:∀K:Act→World→Prop,(∀a w,wpS P ops Fut cl Q t a w→K a w)→K (a.put o.dst v) w):wpS P ops Fut cl Q (.get i t) a w:=by
 refine pl_read hi hc hw (fun w' hf=>?_) hk;have hv':w'.cell? p=some v:=by rw[World.cell?_of_block (hF w' hf)];exact hv
 unfold execOp;simp only [ho,hx,Instr.loadAt,Instr.sureAddr,Sem.run_bind,Sem.run_pure,Result.andThen_ok];cases hd:P.underlying T with
 | none=>rw[hd]at hT;cases hT
 | some d =>
  rw[hd]at hT
  have hagg:(isAgg T).run P w'=.ok false w':=by
   unfold isAgg;rw[Sem.run_bind,run_underlying hd w'];cases d <;> simp_all
  simp [loadVar,hagg,load,Sem.run,hv']
end
theorem kp2_refl(a b:Nat)(w:World):Kp2 a b w w:=⟨rfl,rfl⟩
theorem kp2_trans{a b:Nat}(w1 w2 w3:World)(h:Kp2 a b w1 w2)(k:Kp2 a b w2 w3):Kp2 a b w1 w3:=⟨k.1.trans h.1,k.2.trans h.2⟩
theorem pen_app2 {K : Nat → Prop} {w w1 : World} {g c c' : Nat} {A A' : Option Addr} {xs : List UInt8} {y : UInt8} {v : Value} (h1 : Blk w g 106 [.slice A xs.length c]) (h2 : w.ownsRow 0 5 1 (.slice A xs.length c) xs.length (xs.map B))
  (h3:∀k,K k→k < w.heap.size∧k≠g∧A.map Addr.block≠some k) (h4:A.map Addr.block≠some g) (hv:v=B y)
  (ho:w1.ownsRow 0 5 1 (.slice A' (xs.length+1) c') (xs.length+1) (xs.map B++[v])) (hg:w.grownBy w1 (A.map Addr.block)) (hA:∀b,A'.map Addr.block=some b→A.map Addr.block=some b∨w.heap.size≤b) :
  PenAt (w1.setCell ⟨g,0,none⟩ (.slice A' (xs.length+1) c')) K g (xs++[y])∧Kept K w (w1.setCell ⟨g,0,none⟩ (.slice A' (xs.length+1) c')):=by
 have hl:(xs++[y]).length=xs.length+1:=by simp
 have:=pen_app (ys:=xs++[y]) (A':=A') (c':=c') h1 h2 h3 h4 (by rw[hl,List.map_append];rw[hv]at ho;exact ho) hg hA;rw[hl]at this;exact this
theorem num_rev(ys:List UInt8):(List.range ys.length).map (nthB ys)=ys.reverse:=by
 apply List.ext_getElem?
 intro i;rw[List.getElem?_map];by_cases h:i < ys.length
 ·rw[List.getElem?_range h,List.getElem?_reverse h,Option.map_some];unfold nthB;rw[List.getD_eq_getElem?_getD,List.getElem?_eq_getElem (show ys.length - 1 - i < ys.length by omega)];rfl
 ·rw[List.getElem?_eq_none (by simp;omega),List.getElem?_eq_none (by simp;omega)];rfl
theorem numB_eq(n:Nat):numB n=[UInt8.ofNat (lenB n)]++(leB n).reverse:=by unfold numB;rfl
theorem bnat(n:Nat):Value.int .u8 ((n:Int) % 256)=B (UInt8.ofNat n):=by unfold B;rw[b8_ofNat];congr 1
theorem PenAt.kept{K:Nat→Prop}{w w1:World}{g Bd:Nat}{xs:List UInt8}{row:Option Nat}(h:PenAt w K g xs)(hg:w.grownBy w1 row)(hr:∀r,row=some r→Bd≤r∧∃o:Obj,w.heap[r]? = some o∧o.isCells=false):PenAt w1 K g xs:=by
 obtain⟨A,c,h1,h2,h3,h4⟩:=h;exact⟨A,c,h1.grown hg (row_ne_blk h1 hr),own_kept h2 hg (fun k hk=>by subst hk;exact row_ne_own h2 hr),fun j hj=>⟨Nat.lt_of_lt_of_le (h3 j hj).1 hg.size,(h3 j hj).2⟩,h4⟩
theorem keeps_own{w w1:World}{base n c sz:Nat}{e:TypeId}{A:Option Addr}{xs:List Value}(h:w.ownsRow base e sz (.slice A n c) n xs)(hg:w.grownBy w1 (A.map Addr.block)):KeepsOthers w w1:=by
 refine⟨hg.size,fun k o hk hc=>?_⟩;refine(hg.block k (Array.getElem?_eq_some_iff.1 hk).1 (fun e=>?_)).trans hk;rcases h.2 with ⟨hv,_⟩|⟨g,cap,cur,hv,_,hh,_⟩
 ·injection hv with hA;subst hA;cases e
 ·injection hv with hA;subst hA
  obtain rfl:k=g:=by simpa using e
  rw[hh]at hk;cases hk;cases hc
theorem bnat_s(n:Nat)(h:n≤255):Value.int .u8 (n:Int)=B (UInt8.ofNat n):=by rw[← bnat];congr 1;omega
theorem num_any (g N : Nat) (K : Nat → Prop) (xs : List UInt8) (w : World) (h : PenAt w K g xs) (hl : xs.length ≤ 1000000) (hN : N ≤ 18446744073709551615) :
  Calls Tryz.prog 81 #[.pointer (some ⟨g,0,none⟩),.int .u64 N] w fun e w'=>e=.returned (.tuple #[])∧PenAt w' K g (xs++numB N)∧Kept K w w':=by
 have HP:=kp h;clear h;have HK0:=kq (∀k,K k→k < w.heap.size) (fun k hk=>by obtain⟨A,c,_,_,h3,_⟩:=HP.o;exact(h3 k hk).1);refine callsIn_wide.1 (callsIn_of_wp_marks (n:=10) Tryz.func81 rfl trivial ?_ rfl);simp only [Tryz.ntmps81,List.size_toArray,List.length_cons,List.length_nil,Nat.reduceAdd,Nat.reduceSub,Array.replicate_succ,Array.replicate_zero,List.push_toArray,List.append_toArray,List.nil_append,List.cons_append];refine wpIn_wide.2 ?_;go_wp2_with fail;generalize hw1:World.alloc w _=w1;obtain⟨hX,hb,hs⟩:=alloc_eq hw1;obtain⟨gp,hgp⟩:=xe w.heap.size;rw[← hgp]at hX hs ⊢;have HG:=kp hgp;have HX:=kp hX;have HP1:=kp (HP.o.more (K':=fun k=>K k∨k=gp) hb (fun j hj=>hj.imp_right (fun e=>by omega)));have HKP1:=kp (Kept.of_grow hb HK0.o);have HS1:=kp hs;have HGL:=kq (g < gp) (by rw[hgp];exact HP.o.lt);clear hX hb hs hw1 hgp HP;have HL8:=kp (lenB_64 hN);go_loopw [1,4] (fun nv lv wr=>∃M:Nat,∃ys A c,nv=.int .u64 M∧lv=.slice A ys.length c∧Hid (leB N=ys++leB M)∧M≤N∧Hid (wr.ownsRow w1.heap.size 5 1 (.slice A ys.length c) ys.length (ys.map B))∧Hid (ys.length≤c)∧Hid (Grow w1 wr)) (fun nv _ _=>(intOf nv).toNat)
 case atStart=>exact⟨N,[],none,0,rfl,rfl,rfl,Nat.le_refl _,World.ownsRow_nil _ _ _ _,Nat.zero_le _,Grow.refl _⟩
 case round =>
  obtain⟨M,ys,A,c,rfl,rfl,hsp,hMN,hown,hyc,hgr⟩:=hrel;have hyl:ys.length+lenB M=lenB N:=by have:=congrArg List.length hsp.o;rw[List.length_append,leB_len,leB_len]at this;omega
  have h8:=HL8.o;by_cases hM:0 < M
  ·have d1:decide ((0:Int) < (M:Int))=true:=by simpa using hM
   go_wp2_with (at_builtin;refine wpl_app1 rfl rfl el_u8 hown.o rfl (m:=1) rfl rfl ?_ ?_ ?_ ?_ ?_)
   ·simp [Value.oneCell']
   ·omega
   ·omega
   ·exact hgr.o.size
   intro A5 c5 w5 ho hg hA;have HB5:=kq (Grow w1 w5) (below_grown hgr.o hg hgr.o.size (fun j hj=>own_from hown.o j hj));have hll:(ys++[UInt8.ofNat M]).length=ys.length+1:=by simp
   have HO5:=kp (show w5.ownsRow w1.heap.size 5 1 (.slice A5 (ys++[UInt8.ofNat M]).length c5) (ys++[UInt8.ofNat M]).length ((ys++[UInt8.ofNat M]).map B) by
    rw[hll,List.map_append];simp only [List.map_cons,List.map_nil];rw[← bnat];exact ho)
   have HC5:=kq ((ys++[UInt8.ofNat M]).length≤c5) (by obtain⟨_,_,_,_,hcc⟩:=own_form HO5.o (by rw[hll];omega);exact hcc);have HSP5:=kq (leB N=(ys++[UInt8.ofNat M])++leB (M / 256)) (by rw[hsp.o,leB_pos (by omega),List.append_assoc];rfl);clear ho hg hA;rw[← hll];go_wp2_with fail;go_roundw
   case rel=>exact⟨M / 256,ys++[UInt8.ofNat M],A5,c5,by first|rfl|(congr 1;omega),rfl,HSP5,by omega,HO5,HC5,HB5⟩
   case measure=>simp [intOf];omega
  ·obtain rfl:M=0:=by omega
   have HYS:=kq (leB N=ys) (by have:=hsp.o;rw[leB_zero,List.append_nil]at this;exact this);have hyl2:ys.length=lenB N:=by rw[← leB_len,HYS.o]
   obtain⟨n,hn⟩:=xe ys.length;have HNL:=kq (n=lenB N) (by rw[hn,hyl2]);have HYL:=kq (ys.length=n) hn.symm;rw[← hn]at hown hyc ⊢;have HPR:=kp (HP1.o.more (K':=fun k=>(K k∨k=gp)∨(w1.heap.size≤k∧k < wr.heap.size)) hgr.o (fun j hj=>hj));have HXR:=kp (HX.o.grow hgr.o);have HKR:=kp (HKP1.o.trans (Kept.of_grow hgr.o (fun k hk=>Nat.lt_of_lt_of_le (HK0.o k hk) HKP1.o.size)));have HOR:=hown;have HSR:=kq (w1.heap.size≤wr.heap.size) hgr.o.size;have hn8:n≤8:=by have:=HNL.o;omega
   clear hyl2 hn hown hgr hsp hyl hMN HX HP1 HKP1;go_wp2_with fail;repeat' (first|(with_reducible refine wp_plan (id:=5) (Kp2 gp g) [1,1,0,0,1,0,0,0,4,4,0,0,3] (.get 0 (.get 1 (.get 2 (.get 3 (.get 4 (.get 5 (.get 6 (.get 7 (.act 8 (.act 9 (.get 10 (.get 11 (.act 12 .done))))))))))))) (by kernel_rfl) (by kernel_rfl) (kp2_refl gp g) kp2_trans ?_)|go_values|go_skip|go_guarded|go_step|go_upon|go_back)
   intro w_ hd_;have hdg:=hd_.grow;obtain⟨Ap,cp,hq1,hq2,hq3,hq4⟩:=HPR.o.grow hdg;have HPB:=kp hq1;have HPO:=kp hq2;have HGP:=kq (w_.cell? ⟨gp,0,none⟩=some (.pointer (some ⟨g,0,none⟩))) ((HXR.o.grow hdg).at_ rfl);have HPC:=kq (w_.cell? ⟨g,0,none⟩=some (.slice Ap xs.length cp)) (hq1.at_ rfl);have HLT:=kq (gp < w_.heap.size∧g < w_.heap.size) ⟨(HXR.o.grow hdg).lt,hq1.lt⟩;have HNE:=kq (Ap.map Addr.block≠some gp∧Ap.map Addr.block≠some g) ⟨(hq3 gp (.inl (.inr rfl))).2.2,hq4⟩;have HKK:=kq (∀w2,Grow w_ w2→∀k,((K k∨k=gp)∨(w1.heap.size≤k∧k < wr.heap.size))→k < w2.heap.size∧k≠g∧Ap.map Addr.block≠some k) (fun w2 hg k hk=>⟨Nat.lt_of_lt_of_le (hq3 k hk).1 hg.size,(hq3 k hk).2⟩);have HKR_:=kp (HKR.o.trans (Kept.of_grow hdg (fun k hk=>Nat.lt_of_lt_of_le (HK0.o k hk) HKR.o.size)));have HOR_:=kp (HOR.o.grow hdg);have HZ_:=kp hdg;clear hq1 hq2 hq3 hq4 hd_ hdg HPR HKR;repeat (first|(refine plc (fun K hK=>?_);go_simp;refine hK _ _ ?_;clear hK K)|(refine pl_loadF rfl rfl (by first|exact wanted_none rfl|(go_simp;done)|rfl) rfl (by first|rfl|(go_simp;rfl)) (by kernel_rfl) HGP.o (fun v_ h=>h.1) (fun K hK=>?_);go_simp;refine hK _ _ ?_;clear hK K)|(refine pl_loadF rfl rfl (by first|exact wanted_none rfl|(go_simp;done)|rfl) rfl (by first|rfl|(go_simp;rfl)) (by kernel_rfl) HPC.o (fun v_ h=>h.2) (fun K hK=>?_);go_simp;refine hK _ _ ?_;clear hK K))
   refine pac (fun K hK=>?_);go_wp2_with fail;generalize hw_:World.alloc w_ _=v_;obtain⟨hX_,y_,hs_⟩:=alloc_eq hw_;refine hK _ _ (fun _=>⟨y_.block gp HLT.o.1,y_.block g HLT.o.2⟩) ?_;clear hK K;have HPB2:=kp (HPB.o.grow y_);have HPO2:=kp (HPO.o.grow y_);have HSL:=kp (Blk.sl (sz:=1) (n:=1) hX_ rfl);have HSZ2:=kp hs_;have HGR2:=kp y_;clear hX_ y_ hs_ hw_;refine pac (fun K hK=>?_);refine wpl_apps rfl rfl el_u8 HPO2.o rfl HSL.o rfl (fun u hu=>by simp only [List.mem_cons,List.not_mem_nil,or_false]at hu;rw[hu];rfl) (by omega) (by omega) (Nat.zero_le _) ?_;intro A3 c3 w3_ ho_ x_ hA_;go_wp2_with fail;have HGK:=kq (Kp2 gp g w_ w3_) ⟨(x_.block gp (Nat.lt_of_lt_of_le HLT.o.1 HGR2.o.size) (fun e=>(HNE.o.1 e.symm).elim)).trans (HGR2.o.block gp HLT.o.1),(x_.block g (Nat.lt_of_lt_of_le HLT.o.2 HGR2.o.size) (fun e=>(HNE.o.2 e.symm).elim)).trans (HGR2.o.block g HLT.o.2)⟩;refine hK _ _ (fun _=>⟨x_.block gp (Nat.lt_of_lt_of_le HLT.o.1 HGR2.o.size) (fun e=>(HNE.o.1 e.symm).elim),x_.block g (Nat.lt_of_lt_of_le HLT.o.2 HGR2.o.size) (fun e=>(HNE.o.2 e.symm).elim)⟩) ?_;clear hK K;have HPB3:=kp (HPB2.o.grown x_ (fun e=>(HNE.o.2 e.symm).elim));have HAP:=kp (pen_app2 (A':=A3) (c':=c3) HPB2.o HPO2.o (fun k hk=>HKK.o v_ HGR2.o k hk) HNE.o.2 (bnat_s n (by omega)) ho_ x_ (fun b hb=>hA_.elim (fun h=>.inl (h.symm.trans hb)) (fun h=>.inr (Nat.le_of_eq (Option.some.inj (h.symm.trans hb))))));have HKO:=kp (keeps_own HPO2.o x_);clear ho_ x_ hA_;repeat (first|(refine plc (fun K hK=>?_);go_simp;refine hK _ _ ?_;clear hK K) )
   refine pac (fun K hK=>?_);have hcl:=HPB3.o.at_ (i:=0) rfl;have hfz:=HPB3.o.frozen 0;go_wp2_with fail;refine hK _ _ (fun h=>by cases h) ?_;clear hK K hcl hfz;refine pl_done ?_;have HK5:=kp (HKR_.o.trans ((Kept.of_grow HGR2.o (fun k hk=>(HKK.o w_ (Grow.refl _) k hk).1)).trans HAP.o.2 |>.mono (fun k hk=>.inl (.inl hk))));have HP5:=kp HAP.o.1;have HE5:=kq (∀k,((K k∨k=gp)∨(w1.heap.size≤k∧k < wr.heap.size))→(w3_.setCell ⟨g,0,none⟩ (.slice A3 (xs.length+1) c3)).heap[k]? = w_.heap[k]?) (fun k hk=>(HAP.o.2.block k hk).trans (HGR2.o.block k (HKK.o w_ (Grow.refl _) k hk).1));clear HPB HPO HGP HPC HPB2 HPO2 HSL HSZ2 HPB3 HAP HGK HKR_;generalize w3_.setCell ⟨g,0,none⟩ (.slice A3 (xs.length+1) c3)=w5 at *
   obtain⟨bl,hbl1,hbl2,hbl3⟩:∃bl,(1≤n→A=some ⟨bl,0,none⟩)∧((K bl∨bl=gp)∨(w1.heap.size≤bl∧bl < wr.heap.size))∧∀j y,ys[j]? = some y→w_.cell? ⟨bl,j,none⟩=some (B y):=by
    by_cases h1:1≤n
    ·obtain⟨b,rfl,hb1,_,_⟩:=own_form HOR.o (by omega);obtain⟨_,hbe,_,hb2,_⟩:=own_form HOR.o (by omega);cases hbe
     refine⟨b,fun _=>rfl,.inr ⟨hb1,hb2⟩,fun j y hj=>?_⟩;have h:=World.ownsRow.cellAt HOR_.o j (by have:=(List.getElem?_eq_some_iff.1 hj).1;have:=HYL.o;omega);rw[h,List.getElem?_map,hj];rfl
    ·refine⟨gp,fun h=>absurd h h1,.inl (.inr rfl),fun j y hj=>?_⟩;have:=(List.getElem?_eq_some_iff.1 hj).1;have:=HYL.o;omega
   have HBL1:=kp hbl1;have HBL2:=kp hbl2;have HRD:=kq (∀j y,ys[j]? = some y→w5.cell? ⟨bl,j,none⟩=some (B y)) (fun j y hj=>(World.cell?_of_block (HE5.o bl hbl2)).trans (hbl3 j y hj));have HX5:=kq (Blk w5 gp 108 [.pointer (some ⟨g,0,none⟩)]) ((HE5.o gp (.inl (.inr rfl))).trans (HXR.o.grow HZ_.o));clear hbl1 hbl2 hbl3 HE5 HOR HOR_ HXR HZ_ HGR2 HNE HLT;go_wp2_with fail;refine(back_any _ _ _ _).mono ?_;rintro e w6 ⟨rfl,hc1,hs6,hb6⟩;obtain⟨Bs,hBs⟩:=xe w5.heap.size;rw[← hBs]at hc1 hs6 ⊢;have HC1:=kp hc1;have HP6:=kp (HP5.o.more (K':=fun k=>((K k∨k=gp)∨(w1.heap.size≤k∧k < wr.heap.size))∨k=Bs) hb6 (fun j hj=>hj.imp_right (fun e=>by omega)));have HX6:=kp (HX5.o.grow hb6);have HK6:=kp (HK5.o.trans (Kept.of_grow hb6 (fun k hk=>Nat.lt_of_lt_of_le (HK0.o k hk) HK5.o.size)));have hblt:bl < w5.heap.size:=by obtain⟨_,_,_,_,h3,_⟩:=HP5.o;exact(h3 bl HBL2.o).1
   have HRD6:=kq (∀j y,ys[j]? = some y→w6.cell? ⟨bl,j,none⟩=some (B y)) (fun j y hj=>(hb6.cell (p:=⟨bl,j,none⟩) (by show bl < _;exact hblt)).trans (HRD.o j y hj));have HS6:=kq (Bs < w6.heap.size∧bl < w6.heap.size) (by omega);have HKL6:=kq (∀k,(((K k∨k=gp)∨(w1.heap.size≤k∧k < wr.heap.size))∨k=Bs)→k < w6.heap.size) (fun k hk=>by obtain⟨_,_,_,_,h3,_⟩:=HP6.o;exact(h3 k hk).1);clear hc1 hs6 hb6 hBs hblt HP5 HX5 HK5 HRD
   dsimp only
   repeat' (first|go_values|go_skip|go_guarded|go_step|go_upon|go_back)
   obtain⟨w0,rfl⟩:∃w0:World,w0=w6:=⟨_,rfl⟩
   refine wpIn_wide.1 (wpIn_rangeFunc_ownF (F:=Fence.wide) (n:=10) rfl (by omega) (gf:=120) (lb:=#[.pointer (some ⟨Bs,0,none⟩)]) rfl trivial (enters_of Tryz.func120 (by kernel_rfl) rfl)
    (back1_stops 9 (by omega) Bs bl n c A ys w0 HBL1.o HYL.o hyc.o (by omega) HS6.o.1 HS6.o.2 HC1.o HRD6.o)
    (fun h1 h2=>⟨h2.1.trans h1.1,h2.2.trans h1.2⟩) (fun V l o o' hl _ _ _=>⟨World.putObj_heap_other (by have:=HS6.o;omega),World.putObj_heap_other (by have:=HS6.o;omega)⟩) (Below.refl _ _) (fun _=>rfl)
    (fun pre V=>Hid (PenAt V (fun k=>((K k∨k=gp)∨(w1.heap.size≤k∧k < wr.heap.size))∨k=Bs) g (xs++[UInt8.ofNat n]++pre.map (fun x=>nthB ys x.val)))∧Hid (Kept (fun k=>((K k∨k=gp)∨(w1.heap.size≤k∧k < wr.heap.size))∨k=Bs) w0 V))
    (fun _ _ _=>False)
    (fun s V V' row hs hg hr=>⟨hs.1.o.kept hg hr,hs.2.o.trans (Kept.of_grown hg (fun k hk=>⟨Nat.lt_of_lt_of_le (HKL6.o k hk) hs.2.o.size,fun e=>by have:=(hr k e).1;have:=HKL6.o k hk;omega⟩))⟩)
    (fun _ _ _ _ _ hs _ _=>hs)
    ⟨(show PenAt w0 _ g (xs++[UInt8.ofNat n]++[]) by rw[List.append_nil];exact HP6.o),Kept.refl _ _⟩
    ?A ?assign ?body ?done ?stop)
   case assign =>
    intro l x V K hK
    gi_wp2
    exact hK
   case stop =>
    rintro D c pre V _ _ h _;exact h.elim
   case body =>
    rintro l pre x V ⟨hp,hk⟩ hlen;have HQ:=kq ((xs++[UInt8.ofNat n]++pre.map (fun x=>nthB ys x.val)).length≤1000020) (by rw[List.length_append,List.length_append,List.length_map];simp only [List.length_cons,List.length_nil];omega);obtain⟨xs2,hxs2⟩:=xe (xs++[UInt8.ofNat n]++pre.map (fun x=>nthB ys x.val));rw[← hxs2]at hp HQ;have hp0:=hp;have HX2:=kp hxs2;have HQ2:=HQ.o;have HX0:=kq (Blk V gp 108 [.pointer (some ⟨g,0,none⟩)]) ((hk.o.block gp (.inl (.inl (.inr rfl)))).trans HX6.o);clear hxs2;repeat' (first|(with_reducible refine wpIn_plan (id:=8) (Kp2 gp g) [1,1,0,0,1,0,4,4,0,0,3] (.get 0 (.get 1 (.get 2 (.get 3 (.get 4 (.get 5 (.act 6 (.act 7 (.get 8 (.get 9 (.act 10 .done))))))))))) (by kernel_rfl) (by kernel_rfl) (by kernel_rfl) (kp2_refl gp g) kp2_trans ?_)|go_values|gi_guarded|gi_step|gi_upon)
    intro w_ hd_;have hdg:=hd_.grow;obtain⟨Ap2,cp2,hq1,hq2,hq3,hq4⟩:=hp.o.grow hdg;have HPB:=kp hq1;have HPO:=kp hq2;have HGP:=kq (w_.cell? ⟨gp,0,none⟩=some (.pointer (some ⟨g,0,none⟩))) ((HX0.o.grow hdg).at_ rfl);have HPC:=kq (w_.cell? ⟨g,0,none⟩=some (.slice Ap2 xs2.length cp2)) (hq1.at_ rfl);have HLT:=kq (gp < w_.heap.size∧g < w_.heap.size) ⟨(HX0.o.grow hdg).lt,hq1.lt⟩;have HNE:=kq (Ap2.map Addr.block≠some gp∧Ap2.map Addr.block≠some g) ⟨(hq3 gp (.inl (.inl (.inr rfl)))).2.2,hq4⟩;have HKK:=kq (∀w2,Grow w_ w2→∀k,(((K k∨k=gp)∨(w1.heap.size≤k∧k < wr.heap.size))∨k=Bs)→k < w2.heap.size∧k≠g∧Ap2.map Addr.block≠some k) (fun w2 hg k hk=>⟨Nat.lt_of_lt_of_le (hq3 k hk).1 hg.size,(hq3 k hk).2⟩);have HZV:=kp hdg;clear hq1 hq2 hq3 hq4 hd_ hdg hp;repeat (first|(refine plc (fun K hK=>?_);go_simp;refine hK _ _ ?_;clear hK K)|(refine pl_loadF rfl rfl (by first|exact wanted_none rfl|(go_simp;done)|rfl) rfl (by first|rfl|(go_simp;rfl)) (by kernel_rfl) HGP.o (fun v_ h=>h.1) (fun K hK=>?_);go_simp;refine hK _ _ ?_;clear hK K)|(refine pl_loadF rfl rfl (by first|exact wanted_none rfl|(go_simp;done)|rfl) rfl (by first|rfl|(go_simp;rfl)) (by kernel_rfl) HPC.o (fun v_ h=>h.2) (fun K hK=>?_);go_simp;refine hK _ _ ?_;clear hK K))
    refine pac (fun K hK=>?_);go_wp2_with fail;generalize hw_:World.alloc w_ _=v_;obtain⟨hX_,y_,hs_⟩:=alloc_eq hw_;refine hK _ _ (fun _=>⟨y_.block gp HLT.o.1,y_.block g HLT.o.2⟩) ?_;clear hK K;have HPB2:=kp (HPB.o.grow y_);have HPO2:=kp (HPO.o.grow y_);have HSL:=kp (Blk.sl (sz:=1) (n:=1) hX_ rfl);have HSZ2:=kp hs_;have HGR2:=kp y_;clear hX_ y_ hs_ hw_;refine pac (fun K hK=>?_);refine wpl_apps rfl rfl el_u8 HPO2.o rfl HSL.o rfl (fun u hu=>by simp only [List.mem_cons,List.not_mem_nil,or_false]at hu;rw[hu];rfl) (by omega) (by omega) (Nat.zero_le _) ?_;intro A3 c3 w3_ ho_ x_ hA_;go_wp2_with fail;have HGK:=kq (Kp2 gp g w_ w3_) ⟨(x_.block gp (Nat.lt_of_lt_of_le HLT.o.1 HGR2.o.size) (fun e=>(HNE.o.1 e.symm).elim)).trans (HGR2.o.block gp HLT.o.1),(x_.block g (Nat.lt_of_lt_of_le HLT.o.2 HGR2.o.size) (fun e=>(HNE.o.2 e.symm).elim)).trans (HGR2.o.block g HLT.o.2)⟩;refine hK _ _ (fun _=>⟨x_.block gp (Nat.lt_of_lt_of_le HLT.o.1 HGR2.o.size) (fun e=>(HNE.o.1 e.symm).elim),x_.block g (Nat.lt_of_lt_of_le HLT.o.2 HGR2.o.size) (fun e=>(HNE.o.2 e.symm).elim)⟩) ?_;clear hK K;have HPB3:=kp (HPB2.o.grown x_ (fun e=>(HNE.o.2 e.symm).elim));have HAP:=kp (pen_app2 (A':=A3) (c':=c3) HPB2.o HPO2.o (fun k hk=>HKK.o v_ HGR2.o k hk) HNE.o.2 (rfl) ho_ x_ (fun b hb=>hA_.elim (fun h=>.inl (h.symm.trans hb)) (fun h=>.inr (Nat.le_of_eq (Option.some.inj (h.symm.trans hb))))));have HKO:=kp (keeps_own HPO2.o x_);clear ho_ x_ hA_;repeat (first|(refine plc (fun K hK=>?_);go_simp;refine hK _ _ ?_;clear hK K) )
    refine pac (fun K hK=>?_);have hcl:=HPB3.o.at_ (i:=0) rfl;have hfz:=HPB3.o.frozen 0;go_wp2_with fail;refine hK _ _ (fun h=>by cases h) ?_;clear hK K hcl hfz;refine pl_done ?_;show KeepsOthers V _∧Kp2 Bs bl V _∧Hid _∧Hid _
    have hk2:=(Kept.of_grow HZV.o (fun k hk=>by obtain⟨_,_,_,_,h3,_⟩:=hp0.o;exact(h3 k hk).1)).trans ((Kept.of_grow HGR2.o (fun k hk=>(HKK.o w_ (Grow.refl _) k hk).1)).trans HAP.o.2);refine⟨((keeps_of_below HZV.o).trans (keeps_of_below HGR2.o)).trans (HKO.o.trans (KeepsOthers.setCell _ _ _)),⟨hk2.block Bs (.inr rfl),hk2.block bl (.inl HBL2.o)⟩,?_,hk.o.trans hk2⟩;show PenAt _ _ g (xs++[UInt8.ofNat n]++(pre++[x]).map (fun x=>nthB ys x.val))
    rw[List.map_append,← List.append_assoc,← HX2.o];exact HAP.o.1
   case done =>
    rintro D zs V hD hS ⟨hp,hk⟩ hK;go_wp2_with fail;refine⟨by simp,.inl ⟨_,_,rfl,run_takeDeferred hK,?_⟩⟩;have hgo:=grownBy_putObj' V D (.deferred none);have hnc:∀r,some D=some r→w0.heap.size≤r∧∃o:Obj,V.heap[r]? = some o∧o.isCells=false:=fun r e=>by cases e;exact⟨hD,_,hK,rfl⟩
    have hpen:=(hp.o.kept hgo hnc).less (K':=K) (fun k hk=>.inl (.inl (.inl hk)))
    have hbytes:xs++[UInt8.ofNat n]++zs.map (fun x=>nthB ys x.val)=xs++numB N:=by
     rw[List.append_assoc];congr 1;rw[numB_eq,HYS.o,← HNL.o,← num_rev ys,HYL.o,← hS,List.map_map];rfl
    rw[hbytes]at hpen
    have hkk:=(HK6.o.trans (hk.o.mono (fun k hk=>.inl (.inl (.inl hk))))).trans (Kept.of_grown hgo (fun k hkk=>by
     have h1:=HKL6.o k (.inl (.inl (.inl hkk)))
     exact⟨Nat.lt_of_lt_of_le h1 hk.o.size,fun e=>by cases e;omega⟩))
    exact⟨_,results_none rfl _ _ _,rfl,hpen,hkk⟩
end Go.Proofs.YtnnjjbkdjkjnpaaGreatDoor
namespace Go.Proofs.YtnnjjbkdjkjnpaaGreatDoor
open Go.RowKit Go.Shelf
theorem own_cap1{w:World}{base n c:Nat}{A:Option Addr}{xs:List Value}(h:w.ownsRow base 5 1 (.slice A n c) n xs):n≤c:=by
 rcases Nat.eq_zero_or_pos n with h0|h0
 ·omega
 ·obtain⟨_,_,_,_,hc⟩:=own_form h h0;exact hc
theorem run_nil_u8(w:World)(a:Option Addr)(n c n' c':Nat):(binOp .eql 70 (.slice a n c) (.slice none n' c')).run Tryz.prog w=.ok (.bool a.isNone) w:=Lib.run_eql_slice_nil w _ _ a n c n' c' Tryz.underlying70
theorem bclone_any (A : Option Addr) (n c : Nat) (bs : List UInt8) (w : World) (hs : Sl w w.heap.size 1 A n (bs.map B)) (hn : n ≤ 1000000) :
  Calls Tryz.prog 84 #[.slice A n c] w fun e w'=>∃A' c',e=.returned (.slice A' n c')∧OwnAt w' w.heap.size A' n c' (bs.map B)∧n≤c'∧Grow w w':=by
 have HS:=kp hs;have qT:=run_nil_u8;cases A with
 | none =>
  obtain rfl:n=0:=by
   rcases Nat.eq_zero_or_pos n with h0|h0
   ·exact h0
   ·obtain⟨b,off,u,h1,_⟩:=hs.at_ h0;cases h1
  have hb0:bs=[]:=by have:=hs.len;simpa using this
  subst hb0;clear hs
  go_enter Tryz.func84,Tryz.ntmps84
  go_wp2
  go_ret
  exact⟨none,0,rfl,World.ownsRow_nil _ _ _ _,Nat.le_refl _,Grow.refl _⟩
 | some ad =>
  have HN0:=kp (World.ownsRow_lit (base:=w.heap.size) (e:=5) (size:=1) w #[] 0 (Nat.le_refl _) (by simp [maxLen]) rfl);have HSA:=kp (hs.alloc (Nat.le_refl _) (.cells #[] 5));have HONE:=kp (all_bytes bs);clear hs
  go_enter Tryz.func84,Tryz.ntmps84
  go_wp2_with (at_builtin;refine wpl_apps rfl rfl el_u8 HN0.o rfl HSA.o rfl HONE.o (by omega) (by omega) (by simp) ?_);intro A4 c4 w4 ho hg hA;have HO:=kq (OwnAt w4 w.heap.size A4 n c4 (bs.map B)) (by unfold OwnAt;simpa using ho);have HB:=kq (Grow w w4) (((Below.refl w.heap.size w).alloc (Nat.le_refl _) (.cells #[] 5)).grown hg (by simp) (by intro k hk;cases hk;exact Nat.le_refl _));clear ho hg hA;try simp only [Nat.zero_add]
  go_wp2_with fail;go_ret
  exact⟨A4,c4,rfl,HO.o,own_cap1 HO.o,HB.o⟩
theorem pbytes_any (g : Nat) (K : Nat → Prop) (xs : List UInt8) (w : World) (h : PenAt w K g xs) (hl : xs.length ≤ 1000000) :
  Calls Tryz.prog 50 #[.pointer (some ⟨g,0,none⟩)] w fun e w'=>∃A' c',e=.returned (.slice A' xs.length c')∧OwnAt w' w.heap.size A' xs.length c' (xs.map B)∧xs.length≤c'∧Grow w w':=by
 obtain⟨A,c,h1,h2,h3,h4⟩:=h;have hc:=h1.at_ (i:=0) rfl;have HO:=kp (Sl.of_own h2);clear h1 h2 h3 h4
 go_enter Tryz.func50,Tryz.ntmps50
 go_wp2_with fail;refine(bclone_any A xs.length c xs _ HO.o hl).mono ?_;rintro e w' ⟨A',c',rfl,h1,h2,h3⟩;go_wp2_with fail;go_ret
 exact⟨A',c',rfl,h1,h2,h3⟩
theorem pid_any (g : Nat) (K : Nat → Prop) (xs : List UInt8) {ds : List Value} {d : List UInt8} (hd : Dig ds d) (w : World) (h : PenAt w K g xs) (hl : xs.length ≤ 1000000) :
  Calls Tryz.prog 83 #[.pointer (some ⟨g,0,none⟩),.agg ds.toArray] w fun e w'=>e=.returned (.tuple #[])∧PenAt w' K g (xs++d)∧Kept K w w':=by
 have HP:=kp h;clear h;have HD:=kp hd;have HK0:=kq (∀k,K k→k < w.heap.size) (fun k hk=>by obtain⟨A,c,_,_,h3,_⟩:=HP.o;exact(h3 k hk).1);have HB:=kp (Below.refl w.heap.size w);clear hd;obtain⟨gd,hgd⟩:=xe w.heap.size;have HG:=kp hgd
 go_enter Tryz.func83,Tryz.ntmps83
 go_wp2_with (with_reducible first|refine wpl_box (o:=⟨some 3,_,_,_,_,_⟩) rfl rfl rfl ?_);intro w1 hb1 hbw1 hsz1;rw[← hgd]at hb1 hsz1 hbw1 ⊢;have HX:=kp (at_mk hb1 HD.o.len);have HP1:=kp (HP.o.more (K':=fun k=>K k∨k=gd) (show Grow w w1 by rw[hgd]at hbw1;exact hbw1) (fun j hj=>hj.imp_right (fun e=>by omega)));have HK1:=kp (Kept.of_grow (show Grow w w1 by rw[hgd]at hbw1;exact hbw1) HK0.o);clear hb1 hbw1 hsz1 hgd HP HB;repeat' (first|(with_reducible refine wp_plan (id:=1) Grow [0,0,0,0,2,0,3,0,0,3] (.get 0 (.get 1 (.get 2 (.get 3 (.get 4 (.get 5 (.act 6 (.get 7 (.get 8 (.act 9 .done)))))))))) (by kernel_rfl) (by kernel_rfl) Grow.refl Grow.trans ?_)|go_values|go_skip|go_guarded|go_step|go_upon|go_back)
 intro w_ hd_;have hdg:=hd_.grow;obtain⟨Ap,cp,hq1,hq2,hq3,hq4⟩:=HP1.o.grow hdg;have HPB:=kp hq1;have HPO:=kp hq2;have HPK:=kp hq3;have HPN:=kp hq4;have HPC:=kq (w_.cell? ⟨g,0,none⟩=some (.slice Ap xs.length cp)) (hq1.at_ rfl);have HSL:=kp ((HX.o.grow hdg).sl);have HK2:=kp (HK1.o.trans (Kept.of_grow hdg (fun k hk=>Nat.lt_of_lt_of_le (HK0.o k hk) HK1.o.size)));have HONE:=kp HD.o.one;clear hq1 hq2 hq3 hq4 hd_ hdg;repeat (first|(refine plc (fun K hK=>?_);go_simp;refine hK _ _ ?_;clear hK K)|(refine pls (fun K hK=>?_);go_simp;refine hK _ _ ?_;clear hK K)|(refine psa (fun K hK=>?_);go_simp;refine hK _ _ ?_;clear hK K)|(refine pl_load rfl rfl (by first|exact wanted_none rfl|(go_simp;done)|rfl) rfl (by first|rfl|(go_simp;rfl)) (by kernel_rfl) (by first|exact HPC.o) (fun K hK=>?_);go_simp;refine hK _ _ ?_;clear hK K)|(refine pl_loadnow rfl rfl (by first|exact wanted_none rfl|(go_simp;done)|rfl) rfl (by first|rfl|(go_simp;rfl)) (by kernel_rfl) (by first|exact HPC.o) (fun K hK=>?_);go_simp;refine hK _ _ ?_;clear hK K))
 refine pac (fun K hK=>?_);refine wpl_apps rfl rfl el_u8 HPO.o rfl HSL.o rfl HONE.o (by omega) (by omega) (Nat.zero_le _) ?_;intro A3 c3 w3_ ho_ x_ hA_;have hll:(xs++d).length=xs.length+32:=by rw[List.length_append,HD.o.2]
 have HPB3:=kp (HPB.o.grown x_ (fun e=>(HPN.o e.symm).elim));have HAP:=kp (pen_app (ys:=xs++d) (A':=A3) (c':=c3) HPB.o HPO.o HPK.o HPN.o (by rw[hll,List.map_append];have h:=HD.o.1;rw[h]at ho_;exact ho_) x_ (fun b hb=>hA_.elim (fun h=>.inl (h.symm.trans hb)) (fun h=>.inr (Nat.le_of_eq (Option.some.inj (h.symm.trans hb))))));rw[hll]at HAP;clear ho_ x_ hA_;go_wp2_with fail;refine hK _ _ (fun h=>by cases h) ?_;clear hK K;repeat ((first|refine plc (fun K hK=>?_)|refine pls (fun K hK=>?_)|refine psa (fun K hK=>?_));go_simp;refine hK _ _ ?_;clear hK K)
 refine pac (fun K hK=>?_);have hcl:=HPB3.o.at_ (i:=0) rfl;have hfz:=HPB3.o.frozen 0;go_wp2_with fail;refine hK _ _ (fun h=>by cases h) ?_;clear hK K hcl hfz;refine pl_done ?_;refine bodyPost_end (results_none rfl _ _ _) rfl ?_;exact⟨rfl,HAP.o.1.less (fun k hk=>.inl hk),HK2.o.trans (HAP.o.2.mono (fun k hk=>.inl hk))⟩
theorem shr8(N q:Nat):(N:Int) / 2 ^ (8*q)=((N / 256 ^ q:Nat):Int):=by
 have h:((2 ^ (8*q):Nat):Int)=2 ^ (8*q):=by simp
 rw[← h,← Int.natCast_ediv,Nat.pow_mul]
theorem rnum_any (N : Nat) (w : World) (hN : N ≤ 18446744073709551615) :
  Calls Tryz.prog 85 #[.int .u64 N] w fun e w'=>∃A c,e=.returned (.slice A (numB N).length c)∧OwnAt w' w.heap.size A (numB N).length c ((numB N).map B)∧(numB N).length≤c∧Grow w w':=by
 have HL8:=kp (lenB_64 hN);have h8:=lenB_64 hN
 go_enter Tryz.func85,Tryz.ntmps85
 go_wp2_with fail;go_loopw [3,4] (fun kv vv wq=>∃j M:Nat,lenB M+j=lenB N∧M≤N∧kv=.int .i64 j∧vv=.int .u64 M∧wq=w) (fun _ vv _=>(intOf vv).toNat)
 case atStart=>exact⟨0,N,by omega,Nat.le_refl _,rfl,rfl,rfl⟩
 case round =>
  obtain⟨j,M,hj,hMN,rfl,rfl,rfl⟩:=hrel;by_cases hM:0 < M
  ·have d1:decide ((0:Int) < (M:Int))=true:=by simpa using hM
   have h1:=lenB_pos (n:=M) (by omega);go_wp2_with fail;go_roundw
   case rel=>exact⟨j+1,M / 256,by omega,by omega,by first|rfl|(congr 1;omega),by first|rfl|(congr 1;omega),by first|trivial|rfl⟩
   case measure=>simp [intOf];omega
  ·obtain rfl:M=0:=by omega
   obtain rfl:j=lenB N:=by rw[lenB_zero]at hj;omega
   simp only [show((0:Nat):Int)=0 from rfl];obtain⟨w0,hw0⟩:∃w0:World,w0=wr:=⟨_,rfl⟩;subst hw0;obtain⟨n,hn⟩:=xe (lenB N);rw[← hn]at h8 ⊢;have HN:=kp hn;have hnl:(numB N).length=n+1:=by rw[numB_len,← hn]
   have HNL:=kp hnl;clear hn hj hMN HL8 hM hnl;go_wp2_with fail;generalize hw1:World.alloc w0 _=w1;obtain⟨hX,hb,hs⟩:=alloc_eq hw1;obtain⟨g0,hg0⟩:=xe w0.heap.size;rw[← hg0]at hX hs ⊢;have HG:=kp hg0;have HO1:=kp (own_blk (base:=w0.heap.size) (w:=w1) (g:=g0) (n:=1) hX rfl (by omega) (by simp [maxLen]));have HB1:=kp hb;clear hX hb hs hw1 hg0;go_loopw [5,6] (fun ov iv wq=>∃t:Nat,∃A c,t≤n∧ov=.slice A (t+1) c∧iv=.int .i64 ((n:Int) - 1 - (t:Int))∧Hid (wq.ownsRow w0.heap.size 5 1 (.slice A (t+1) c) (t+1) (((numB N).take (t+1)).map B))∧Hid (Grow w0 wq)) (fun _ iv _=>(intOf iv+1).toNat)
   case atStart =>
    refine⟨0,some ⟨g0,0,none⟩,1,Nat.zero_le _,rfl,by simp,?_,HB1⟩;have h:=HO1.o;show w1.ownsRow _ _ _ _ _ _
    rw[numB_zero,← HN.o];rw[bnat_s n (by omega)]at h;exact h
   case round =>
    obtain⟨t,A,c,ht,rfl,rfl,hown,hgr⟩:=hrel;by_cases hlt:t < n
    ·obtain⟨q,hq1,hq2⟩:∃q:Nat,(n:Int) - 1 - (t:Int)=(q:Int)∧q=n - 1 - t:=⟨n - 1 - t,by omega,rfl⟩;have hq7:q≤7:=by omega
     have d1:decide ((0:Int)≤(q:Int))=true:=by simp
     have HQ1:=kp hq1;have HQ2:=kp hq2;rw[hq1];clear hq1 hq2;go_wp2_with (at_builtin;refine wpl_app1 rfl rfl el_u8 hown.o rfl (m:=1) rfl rfl ?_ ?_ ?_ ?_ ?_)
     ·rfl
     ·omega
     ·omega
     ·exact hgr.o.size
     intro A4 c4 w4 ho hg hA
     have HO4:=kp (show w4.ownsRow w0.heap.size 5 1 (.slice A4 (t+1+1) c4) (t+1+1) (((numB N).take (t+1+1)).map B) by
      rw[numB_step (by have:=HN.o;omega),List.map_append,← HN.o,← HQ2.o];simp only [List.map_cons,List.map_nil]
      rw[← bnat,← shr8,List.map_take];exact ho)
     have HB4:=kq (Grow w0 w4) (below_grown hgr.o hg hgr.o.size (fun j hj=>own_from hown.o j hj));clear ho hg hA;go_wp2_with fail;go_roundw
     case rel =>
      have h1:=HQ1.o;refine⟨t+1,A4,c4,by omega,rfl,?_,HO4,HB4⟩
      congr 1;omega
     case measure=>simp [intOf]
    ·obtain rfl:t=n:=by omega
     have d1:decide ((0:Int)≤(t:Int) - 1 - (t:Int))=false:=by simp only [decide_eq_false_iff_not];omega
     go_wp2_with fail;go_ret
     have hall:(numB N).take (t+1)=numB N:=by rw[HN.o];exact numB_all N
     have ho:=hown.o;rw[hall]at ho;rw[HNL.o];exact⟨A,c,rfl,ho,own_cap1 ho,hgr.o⟩
section
variable {w w':World} {Lo Bd g:Nat} {l:List UInt8}
theorem grownBy_trans{a b c:World}{r:Option Nat}(h:a.grownBy b r)(k:b.grownBy c r):a.grownBy c r:=
 ⟨k.os.trans h.os,k.tape.trans h.tape,k.output.trans h.output,Nat.le_trans h.size k.size,fun i hi hn=>(k.block i (Nat.lt_of_lt_of_le hi h.size) hn).trans (h.block i hi hn)⟩
end
end Go.Proofs.YtnnjjbkdjkjnpaaGreatDoor
namespace Go.Proofs.YtnnjjbkdjkjnpaaGreatDoor
open Go.RowKit Go.Shelf
theorem shl_u64(v:Nat)(h:v*256≤18446744073709551615):IntKind.u64.wrap ((v:Int)*2 ^ 8)=((v*256:Nat):Int):=by
 have e:(v:Int)*2 ^ 8=((v*256:Nat):Int):=by simp
 rw[e,IntKind.wrap_u64];omega
theorem or_u64(v c:Nat)(hc:c < 256)(hv:v*256+255≤18446744073709551615):bits BinOp.or IntKind.u64 ((v:Int)*256) (c:Int)=((v*256+c:Nat):Int):=by
 have h:Op.intBits .or .u64 ((v:Int)*256) (c:Int)=pure (.int .u64 (IntKind.u64.wrap (((BitVec.ofInt 64 ((v:Int)*256) ||| BitVec.ofInt 64 (c:Int)).toNat:Nat):Int))):=rfl;rw[intBits_or]at h;injection h with h
 injection h with _ h
 rw[show bits BinOp.or IntKind.u64 ((v:Int)*256) (c:Int)=IntKind.u64.wrap (((BitVec.ofInt 64 ((v:Int)*256) ||| BitVec.ofInt 64 (c:Int)).toNat:Nat):Int) from h];have e1:(BitVec.ofInt 64 ((v:Int)*256)).toNat=2 ^ 8*v:=by rw[BitVec.toNat_ofInt];omega
 have e2:(BitVec.ofInt 64 (c:Int)).toNat=c:=by rw[BitVec.toNat_ofInt];omega
 rw[BitVec.toNat_or,e1,e2,← Nat.two_pow_add_eq_or_of_lt (by omega),IntKind.wrap_u64];omega
def SzG(w:World)(n:Nat):Prop:=n≤w.heap.size
theorem SzG.grow{w w':World}{n:Nat}(h:SzG w n)(k:Grow w w'):SzG w' n:=Nat.le_trans h k.size
def nilS:Value:=.slice none 0 0
theorem zero_pen:(Tryz.prog.info? 106).map (·.zero)=some (some (.agg [Value.slice none 0 0].toArray)):=by kernel_rfl
theorem dig_map{d:List UInt8}(h:d.length=32):Dig (d.map B) d:=⟨rfl,h⟩
theorem built_id0:Tryz.prog.built 46 []=some (zeroD.map B).toArray:=by kernel_rfl
theorem under1'(m:UInt8)(a:List UInt8):underB m [a]=[m]++(beBytes a.length 4++a):=by
 have:underB m []=[m]:=by unfold underB;simp
 rw[show [a]=[]++[a] from rfl,underB_snoc,this]
theorem under2'(m:UInt8)(a b:List UInt8):underB m [a,b]=[m]++(beBytes a.length 4++a)++(beBytes b.length 4++b):=by
 rw[show [a,b]=[a]++[b] from rfl,underB_snoc,under1']
theorem under_eq(m:UInt8)(bs:List UInt8)(n:Nat)(h:bs.length=n):(underB m [bs]).map B=[B m]++(beBytes n 4++bs).map B:=by
 rw[under1',h];simp only [List.map_append,List.map_cons,List.map_nil]
section
variable {P:Program} {ops:Array Oper} {rest:List Oper} {o:Oper} {a:Act} {w:World} {Q:Exit→Act→World→Prop}
end
end Go.Proofs.YtnnjjbkdjkjnpaaGreatDoor

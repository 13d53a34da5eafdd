/- Contract of sha.Sum. -/
import Derived.Test.YtnnjjbkdjkjnpaaGreatDoorSpendPlaysRb5
import Derived.Laws.CopyOwn
import Derived.Deep.RegionWith
import Derived.Deep.CutRange
import Derived.Deep.CutBlock
import Derived.Laws.IdiomStrings
import Derived.Lib.SlBytesConst
set_option linter.unusedSimpArgs false
set_option linter.unusedVariables false
set_option maxRecDepth 100000
set_option maxHeartbeats 16000000
namespace Go.Proofs.YtnnjjbkdjkjnpaaGreatDoor
open Go.RowKit Go.Shelf
theorem i128:Value.int .u8 128=B 128:=rfl
theorem i0:Value.int .u8 0=B 0:=rfl
theorem zeros_lt(L j:Nat)(h:j < zerosFor L):(L+1+j) % 64≠56:=by unfold zerosFor at h;omega
theorem zeros_eq(L:Nat):(L+1+zerosFor L) % 64=56:=by unfold zerosFor;omega
attribute [local go_sem] Oper.semAt_some
theorem row_ne_blk{V:World}{Bd g:Nat}{t:TypeId}{cs:List Value}{row:Option Nat}(hb:Blk V g t cs)(hr:∀r,row=some r→Bd≤r∧∃o:Obj,V.heap[r]? = some o∧o.isCells=false):some g≠row:=by
 intro e;obtain⟨_,o,ho,hc⟩:=hr g e.symm;unfold Blk at hb;rw[hb]at ho;cases ho
 cases hc
theorem row_ne_own{V:World}{Bd base:Nat}{e:TypeId}{sz n c g:Nat}{xs:List Value}{row:Option Nat}(h:V.ownsRow base e sz (.slice (some ⟨g,0,none⟩) n c) n xs)(hr:∀r,row=some r→Bd≤r∧∃o:Obj,V.heap[r]? = some o∧o.isCells=false):some g≠row:=by
 intro he;obtain⟨_,o,ho,hc⟩:=hr g he.symm;rcases h.2 with ⟨hv,_⟩|⟨g',cap,cur,hv,_,hg,_⟩
 ·cases hv
 ·injection hv with hA
  cases hA
  rw[hg]at ho;cases ho
  cases hc
theorem keeps_of_below{V V':World}(h:Below V.heap.size V V'):KeepsOthers V V':=
 ⟨h.size,fun k o hk _=>(h.block k (Array.getElem?_eq_some_iff.1 hk).1).trans hk⟩
theorem run_copy_blk {P : Program} {w : World} {dT sT ty elem t : TypeId} {go o dl dc gq base : Nat} {xs cs : List Value} {m : Nat} (hu : P.underlying dT = some (.slice elem)) (hs : (P.info? elem).map (·.size) = some 1)
  (hb:Blk w go t xs) (hq:w.ownsRow base elem 1 (.slice (some ⟨gq,0,none⟩) m m) m cs) (hm:m≤dl) (hfit:o+m≤xs.length) (h1:∀v∈cs,v.oneCell'=true) :
  (Builtin.copy_ #[dT,sT] ty #[.slice (some ⟨go,o,none⟩) dl dc,.slice (some ⟨gq,0,none⟩) m m]).run P w=.ok (goInt m) (w.setRow go (splice xs o cs).toArray):=by
 have hl:cs.length=m:=by have:=hq.1;omega
 have h:=run_copy_row (P:=P) w dT sT ty elem go o dl dc ⟨gq,0,none⟩ m m xs.toArray t cs hu hs hb (by rw[hl];exact(Nat.min_eq_left hm).symm) (fun j v hv=>by
  have h1:=hq.cellAt j (by have:=(List.getElem?_eq_some_iff.1 hv).1;omega);rw[hv]at h1;have e:(Addr.add ⟨gq,0,none⟩ j)=⟨gq,j,none⟩:=by simp [Addr.add];omega
  rw[e];exact h1) (by simp;omega) h1
 rw[hl]at h;rw[h];simp [splice,hl]
theorem splice_take{α:Type}(xs cs:List α)(o:Nat)(h:o≤xs.length):(splice xs o cs).take (o+cs.length)=xs.take o++cs:=by
 have hl:(xs.take o++cs).length=o+cs.length:=by simp;omega
 rw[splice,← List.append_assoc,← hl];exact List.take_left' rfl
theorem blk_setRow{w:World}{g:Nat}{t:TypeId}{cs xs:List Value}(h:Blk w g t cs):Blk (w.setRow g xs.toArray) g t xs:=setRow_heap w g _ _ t _ h
theorem row_32:RowT Tryz.prog 46 32:=⟨_,Tryz.underlying46,by kernel_rfl,by kernel_rfl⟩
theorem len32{v:Value}:(List.replicate 32 v).length=32:=by simp
theorem sum_any (A : Option Addr) (n c : Nat) (ps : List (Value × List UInt8)) (w : World) (hp : Parts w w.heap.size A n ps) (hn : n ≤ 1000000) (hl : (cat ps).length ≤ 1099511627776) (ht : Tabs w) :
  Calls Tryz.prog 105 #[.slice A n c] w fun e w'=>e=.returned (.agg ((sha (cat ps)).map B).toArray)∧Below w.heap.size w w':=by
 have HP:=kp hp;clear hp;have HT:=kp ht;clear ht;obtain⟨bs,hbs⟩:=xe (cat ps);rw[← hbs]at hl ⊢;have HBS:=kp hbs;clear hbs;obtain⟨L,hL⟩:=xe bs.length;rw[← hL]at hl;have HL:=kp hL;clear hL;refine callsIn_wide.1 (callsIn_of_wp_marks (n:=10) Tryz.func105 rfl trivial ?_ rfl);simp only [Tryz.ntmps105,List.size_toArray,List.length_cons,List.length_nil,Nat.reduceAdd,Nat.reduceSub,Array.replicate_succ,Array.replicate_zero,List.push_toArray,List.append_toArray,List.nil_append,List.cons_append];refine wpIn_wide.2 ?_;go_wp2_with (with_reducible first|refine wpl_alloc (o:=⟨some 2,_,_,_,_,_⟩) rfl rfl zero_id ?_);intro w1 hb1 hbw1 hsz1;have HB1:=kp hb1;clear hb1;have HBW1:=kp hbw1;clear hbw1;have HSZ1:=kp hsz1;clear hsz1;have hP1:=(HP.o.below HBW1.o).more HBW1.o.size;have HP1:=kp hP1;clear hP1;go_wp2_with fail;refine(concat_any A n c ps w1 HP1.o hn (by rw[← HBS.o,← HL.o];exact hl)).mono ?_;rintro e w2 ⟨A2,c2,rfl,hown2,hbw2⟩;rw[← HBS.o,← HL.o]at hown2 ⊢;have HO2:=kp hown2;have HB2:=kp (HB1.o.call hbw2);have HBW2:=kp (below_step HBW1.o HBW1.o.size hbw2);have HSZ2:=kq (w.heap.size+1≤w2.heap.size) (by have:=hbw2.size;rw[HSZ1.o]at this;exact this);clear hown2 hbw2 HB1 HBW1 HP1;generalize hgd:w.heap.size=g at *;have HG:=kp hgd;clear hgd;have HS1:=HSZ1.o;rw[HS1]at HO2;clear HS1 HSZ1;go_wp2_with (at_builtin;refine wpl_app1 rfl rfl el_u8 HO2.o rfl (m:=1) rfl rfl ?_ ?_ ?_ HSZ2.o ?_)
 ·simp [Value.oneCell']
 ·omega
 ·omega
 ·intro A3 c3 w3 ho hg _;have hb3:=below_grown HBW2.o hg (by have:=HSZ2.o;omega) (fun j hj=>by have:=own_from HO2.o j hj;omega);have HO3:=kp ho;have HB3:=kp (HB2.o.grown hg (fun e=>by have:=own_from HO2.o g e.symm;omega));have HBW3:=kp hb3;have HSZ3:=kp (Nat.le_trans HSZ2.o hg.size);clear ho hb3 hg HO2 HB2 HBW2 HSZ2;have hz1:zerosFor L≤63:=by unfold zerosFor;omega
  have HZ:=kp (zeros_lt L);have HZE:=kp (zeros_eq L);generalize hZF:zerosFor L=Z at *;have HZF:=kp hZF;clear hZF;go_wp2_with fail;go_loopw [3] (fun v wr=>∃j:Nat,∃A' c',j≤Z∧v=.slice A' (L+1+j) c'∧Hid (wr.ownsRow (g+1) 5 1 (.slice A' (L+1+j) c') (L+1+j) ((bs++[128]++List.replicate j 0).map B))∧Hid (Blk wr g 46 (List.replicate 32 (B 0)))∧Hid (Below g w wr)∧Hid (g+1≤wr.heap.size)) (fun v _=>Z+L+1 - (match v with|.slice _ l _=>l|_=>0))
  case atStart=>exact⟨0,A3,c3,by omega,rfl,(show w3.ownsRow _ _ _ _ _ _ by simpa [i128] using HO3.o),HB3,HBW3,HSZ3⟩
  case round =>
   obtain⟨j,A4,c4,hj,rfl,hown,hblk,hbw,hsz⟩:=hrel;by_cases hlt:j < Z
   ·have t1 : (((L + 1 + j : Nat) : Int) % 64 != 56) = true := by
     have:=HZ.o j hlt;rw[bne_iff_ne];omega
    have t2:(((L:Int)+1+(j:Int)) % 64 != 56)=true:=by
     have:=HZ.o j hlt;rw[bne_iff_ne];omega
    go_wp2_with (at_builtin;refine wpl_app1 rfl rfl el_u8 hown.o rfl (m:=1) rfl rfl ?_ ?_ ?_ hsz.o ?_)
    ·simp [Value.oneCell']
    ·omega
    ·omega
    ·intro A5 c5 w5 ho hg _;have hb3:=below_grown hbw.o hg (by have:=hsz.o;omega) (fun j hj=>by have:=own_from hown.o j hj;omega);have HO5:=kp ho;have HB5:=kp (hblk.o.grown hg (fun e=>by have:=own_from hown.o g e.symm;omega));have HBW5:=kp hb3;have HSZ5:=kp (Nat.le_trans hsz.o hg.size);clear ho hb3 hg;go_wp2_with fail;go_roundw
     case rel =>
      refine⟨j+1,A5,c5,by omega,rfl,?_,HB5,HBW5,HSZ5⟩;have h5:=HO5.o;show w5.ownsRow _ _ _ _ _ _
      rw[List.replicate_succ',show L+1+(j+1)=L+1+j+1 by omega];simpa [i0] using h5
     case measure=>simp;omega
   ·obtain rfl:j=Z:=by omega
    have t1:(((L+1+j:Nat):Int) % 64 != 56)=false:=by
     have:=HZE.o;rw[bne_eq_false_iff_eq];omega
    have t2:(((L:Int)+1+(j:Int)) % 64 != 56)=false:=by
     have:=HZE.o;rw[bne_eq_false_iff_eq];omega
    go_wp2_with fail;clear t1 t2;rw[show(L:Int)*8=((8*L:Nat):Int) by omega];refine(bytes_any (8*L) 8 wr (by omega) (by omega) (by omega)).mono ?_;rintro e w6 ⟨gb,rfl,hownb,hbw6⟩;have HO6:=kp (own_below hown.o hbw6);have HOB:=kp (Sl.of_own hownb);have HB6:=kp (hblk.o.call hbw6);have HBW6:=kp (below_step hbw.o (by have:=hsz.o;omega) hbw6);have HSZ6:=kp (Nat.le_trans hsz.o hbw6.size);clear hownb hbw6 hown hblk hbw hsz;go_wp2_with (at_builtin;refine wpl_apps rfl rfl el_u8 HO6.o rfl HOB.o rfl (bytes_one _) ?_ ?_ HSZ6.o ?_)
    ·omega
    ·omega
    ·intro A7 c7 w7 ho hg _;have hb3:=below_grown HBW6.o hg (by have:=HSZ6.o;omega) (fun j hj=>by have:=own_from HO6.o j hj;omega)
     have hpad:bs.map B++B 128::(List.replicate j (B 0)++(beBytes (8*L) 8).map B)=(padded bs).map B:=by
      rw[padded,← HL.o,HZF.o];simp
     rw[hpad]at ho;have hlen:L+1+j+8=(padded bs).length:=by rw[padded_length,← HL.o,HZF.o];omega
     obtain⟨gm,rfl,hgm1,hgm2,hcap⟩:=own_form ho (by omega);have HO7:=kp ho;have HB7:=kp (HB6.o.grown hg (fun e=>by have:=own_from HO6.o g e.symm;omega));have HBW7:=kp hb3;have HSZ7:=kp (Nat.le_trans HSZ6.o hg.size);have HLEN:=kp hlen;clear ho hb3 hg hpad hlen HO6 HOB HB6 HBW6 HSZ6;have hfst:∀j u,(firstSt.toList.map W)[j]? = some u→w7.cell? ⟨0,0+j,none⟩=some u:=fun j u hu=>by rw[Nat.zero_add];exact(HT.o.below (HG.o▸HBW7.o)).first j u hu
     have HF:=kp hfst;have HFL:=kq ((firstSt.toList.map W).length=8) (by rfl);have HF1:=kq (∀u∈firstSt.toList.map W,u.oneCell'=true) (fun u hu=>by obtain⟨x,_,rfl⟩:=List.mem_map.1 hu;rfl);clear hfst;go_wp2_with (with_reducible first|refine wlm 30 row_8 HF.o HFL.o ?_|refine wpl_alloc (o:=⟨some 5,_,_,_,_,_⟩) rfl rfl zero_8 ?_);intro w8 hb8 hbw8 hsz8;have HO8:=kp (own_below HO7.o hbw8);have HB8:=kp (HB7.o.call hbw8);have HBW8:=kp (below_step HBW7.o (by have:=HSZ7.o;omega) hbw8);have HV8:=kp hb8;have HSZ8:=kp hsz8;clear hb8 hbw8 hsz8 HO7 HB7 HBW7;generalize hgv:w7.heap.size=gv at *;clear hgv;go_wp2_with (with_reducible refine wsb row_8 HV8.o len8 HFL.o HF1.o ?_);intro w9 hb9 hg9 hsz9;have HV9:=kp hb9;have HO9:=kp (own_kept HO8.o hg9 (fun k hk=>by cases hk;simp;omega));have HB9:=kp (HB8.o.grown hg9 (by have:=HSZ7.o;simp;omega));have HBW9:=kp (HBW8.o.grown hg9 (by rw[HSZ8.o];have:=HSZ7.o;omega) (by intro k hk;cases hk;have:=HSZ7.o;omega));rw[HSZ8.o]at hsz9;have HSZ9:=kp hsz9;clear hb9 hg9 hsz9 HV8 HO8 HB8 HBW8;go_wp2_with fail;refine(chunk_any _ _ _ w9).mono ?_;rintro e w10 ⟨rfl,hc1,hc2,hsz10,hbw10⟩;have HV10:=kp (HV9.o.call hbw10);have HO10:=kp (own_below HO9.o hbw10);have HB10:=kp (HB9.o.call hbw10);have HBW10:=kp (below_step HBW9.o (by rw[HSZ9.o];have:=HSZ7.o;omega) hbw10);rw[HSZ9.o]at hc1 hc2 hsz10 ⊢;have HC1:=kp hc1;have HC2:=kp hc2;have HSZ10:=kp hsz10;clear hc1 hc2 hsz10 hbw10 HV9 HO9 HB9 HBW9;obtain⟨nb,hnb⟩:∃nb,(padded bs).length=64*nb:=⟨(padded bs).length / 64,by have:=padded_mod bs;omega⟩;have HNB:=kp hnb;have hlnb:L+1+j+8=64*nb:=by rw[HLEN.o];exact hnb
     have HC3:Hid (w10.cell? ⟨gv+1,0,none⟩=some (.slice (some ⟨gm,0,none⟩) (64*nb) c7)):=by rw[← hlnb];exact HC1
     have hnb2:nb≤1000000000000:=by omega
     have hc7:64*nb≤c7:=by omega
     have HLNB:=kp hlnb;clear hnb hlnb
     dsimp only
     repeat' (first|go_values|go_skip|go_guarded|go_step|go_upon|go_back)
     obtain⟨w0,rfl⟩:∃w0:World,w0=w10:=⟨_,rfl⟩;have hsz:=HSZ10.o;have h7:=HSZ7.o
     refine wpIn_wide.1 (wpIn_rangeFunc_ownF (F:=Fence.wide) (n:=10) rfl (by omega) (gf:=128) (lb:=#[.pointer (some ⟨gv+1,0,none⟩),.pointer (some ⟨gv+1+1,0,none⟩)]) rfl trivial (enters_of Tryz.func128 (by kernel_rfl) rfl)
      (chunk1_stops 9 (by omega) (gv+1) (gv+1+1) w0.heap.size gv gm 0 nb c7 w0 (Nat.le_refl _) (by omega) (by omega) (by omega) (by omega) hc7 hnb2 HC3.o HC2.o)
      (fun h1 h2 k hk hg=>(h2 k hk hg).trans (h1 k hk hg)) (fun V l o o' hl _ _ _ k hk _=>World.putObj_heap_other (by omega)) (Below.refl _ _) (fun _=>rfl)
      (fun pre V=>Hid (Blk V gv 185 ((stL (padded bs) (pre.map Fin.val)).toList.map W))∧Hid (Blk V g 46 (List.replicate 32 (B 0)))∧Hid (V.ownsRow (g+1) 5 1 (.slice (some ⟨gm,0,none⟩) (L+1+j+8) c7) (L+1+j+8) ((padded bs).map B))∧Hid (Below g w V)∧Hid (w0.heap.size≤V.heap.size))
      (fun _ _ _=>False)
      (fun s V V' row hs hg hr=>⟨hs.1.o.grown hg (row_ne_blk hs.1.o hr),hs.2.1.o.grown hg (row_ne_blk hs.2.1.o hr),own_kept hs.2.2.1.o hg (fun k hk=>by cases hk;exact row_ne_own hs.2.2.1.o hr),hs.2.2.2.1.o.grown hg (by have:=hs.2.2.2.2.o;omega) (fun k hk=>by have:=(hr k hk).1;omega),Nat.le_trans hs.2.2.2.2.o hg.size⟩)
      (fun _ _ _ _ _ hs _ _=>hs)
      ⟨by rw[List.map_nil,stL];exact HV10,HB10,HO10,HBW10,Nat.le_refl _⟩
      ?A ?assign ?body ?done ?stop)
     case assign =>
      intro l x V K hK
      gi_wp2
      exact hK
     case stop =>
      rintro D c pre V _ _ h _;exact h.elim
     case body =>
      rintro l pre x V ⟨hv,hres,hown,hbw,hsz⟩ hlen;have hx:=x.isLt;have hm64:(padded bs).length=64*nb:=HNB.o;have hcl:=chunkAt_length (padded bs) x.val nb hm64 hx
      have hsl:Sl V V.heap.size 1 (some ⟨gm,64*x.val,none⟩) 64 ((chunkAt (padded bs) x.val).map B):=by
       have h1:=Sl.sub_ (k:=64*x.val) (m:=64) (Sl.of_own hown.o) (by have:=HLNB.o;omega);rw[Nat.zero_add]at h1;rw[chunkAt,List.map_take,List.map_drop];exact h1
      have hsnoc:=stL_snoc (padded bs) (pre.map Fin.val) x.val;have HSN:=kp hsnoc;have htab:Tabs V:=HT.o.below (HG.o▸hbw.o);have hstep:=step_any (stL (padded bs) (pre.map Fin.val)) (some ⟨gm,64*x.val,none⟩) 64 (chunkAt (padded bs) x.val) V hsl (Nat.le_refl _) htab;clear hcl hsl hsnoc htab hm64;generalize hs0:stL (padded bs) (pre.map Fin.val)=s at *;have HS0:=kp hs0;clear hs0;obtain⟨t,ht⟩:=xe (compress roundKs s (chunkAt (padded bs) x.val));rw[← ht]at hstep;have HTT:=kp ht;clear ht;obtain⟨sa,sb,sc,sd,se,sf,sg,sh⟩:=s;obtain⟨ta,tb,tc,td,te,tf,tg,th⟩:=t;have c0:V.cell? ⟨gv,0,none⟩=some (.int .u32 (w32 sa)):=hv.o.at_ rfl;have c1:V.cell? ⟨gv,1,none⟩=some (.int .u32 (w32 sb)):=hv.o.at_ rfl;have c2:V.cell? ⟨gv,2,none⟩=some (.int .u32 (w32 sc)):=hv.o.at_ rfl;have c3:V.cell? ⟨gv,3,none⟩=some (.int .u32 (w32 sd)):=hv.o.at_ rfl;have c4:V.cell? ⟨gv,4,none⟩=some (.int .u32 (w32 se)):=hv.o.at_ rfl;have c5:V.cell? ⟨gv,5,none⟩=some (.int .u32 (w32 sf)):=hv.o.at_ rfl;have c6:V.cell? ⟨gv,6,none⟩=some (.int .u32 (w32 sg)):=hv.o.at_ rfl;have c7:V.cell? ⟨gv,7,none⟩=some (.int .u32 (w32 sh)):=hv.o.at_ rfl;have hstep2:Calls Tryz.prog 119 #[.agg #[.int .u32 (w32 sa),.int .u32 (w32 sb),.int .u32 (w32 sc),.int .u32 (w32 sd),.int .u32 (w32 se),.int .u32 (w32 sf),.int .u32 (w32 sg),.int .u32 (w32 sh)],.slice (some ⟨gm,64*x.val,none⟩) 64 64] V fun e w'=>e=.returned (.agg #[.int .u32 (w32 ta),.int .u32 (w32 tb),.int .u32 (w32 tc),.int .u32 (w32 td),.int .u32 (w32 te),.int .u32 (w32 tf),.int .u32 (w32 tg),.int .u32 (w32 th)])∧Below V.heap.size V w':=hstep
      have HST:=kp hstep2;clear hstep hstep2;have h1n:1≤10 - 1 - 1:=by omega
      gi_wp2_with fail
      refine⟨trivial,(CallsIn.inRound l (callsIn_wide.2 HST.o)).mono ?_⟩;rintro e V2 ⟨rfl,hb2⟩;have hv2:=hv.o.call hb2;have HV2:=kp hv2;have d0:V2.cell? ⟨gv,0,none⟩=some (.int .u32 (w32 sa)):=hv2.at_ rfl;have d1:V2.cell? ⟨gv,1,none⟩=some (.int .u32 (w32 sb)):=hv2.at_ rfl;have d2:V2.cell? ⟨gv,2,none⟩=some (.int .u32 (w32 sc)):=hv2.at_ rfl;have d3:V2.cell? ⟨gv,3,none⟩=some (.int .u32 (w32 sd)):=hv2.at_ rfl;have d4:V2.cell? ⟨gv,4,none⟩=some (.int .u32 (w32 se)):=hv2.at_ rfl;have d5:V2.cell? ⟨gv,5,none⟩=some (.int .u32 (w32 sf)):=hv2.at_ rfl;have d6:V2.cell? ⟨gv,6,none⟩=some (.int .u32 (w32 sg)):=hv2.at_ rfl;have d7:V2.cell? ⟨gv,7,none⟩=some (.int .u32 (w32 sh)):=hv2.at_ rfl;have f0:=hv2.frozen 0;have f1:=hv2.frozen 1;have f2:=hv2.frozen 2;have f3:=hv2.frozen 3;have f4:=hv2.frozen 4;have f5:=hv2.frozen 5;have f6:=hv2.frozen 6;have f7:=hv2.frozen 7;have HBB:=kp hb2;clear hv2 hb2 c0 c1 c2 c3 c4 c5 c6 c7
      gi_wp2_with fail
      have hfin:Blk _ gv 185 _:=blk_set8 (b0:=.int .u32 (w32 ta)) (b1:=.int .u32 (w32 tb)) (b2:=.int .u32 (w32 tc)) (b3:=.int .u32 (w32 td)) (b4:=.int .u32 (w32 te)) (b5:=.int .u32 (w32 tf)) (b6:=.int .u32 (w32 tg)) (b7:=.int .u32 (w32 th)) HV2.o;have hgr:=grown_set8 V2 gv (.int .u32 (w32 ta)) (.int .u32 (w32 tb)) (.int .u32 (w32 tc)) (.int .u32 (w32 td)) (.int .u32 (w32 te)) (.int .u32 (w32 tf)) (.int .u32 (w32 tg)) (.int .u32 (w32 th))
      have hko:KeepsOthers V2 ((((((((V2.setCell ⟨gv,0,none⟩ (.int .u32 (w32 ta))).setCell ⟨gv,1,none⟩ (.int .u32 (w32 tb))).setCell ⟨gv,2,none⟩ (.int .u32 (w32 tc))).setCell ⟨gv,3,none⟩ (.int .u32 (w32 td))).setCell ⟨gv,4,none⟩ (.int .u32 (w32 te))).setCell ⟨gv,5,none⟩ (.int .u32 (w32 tf))).setCell ⟨gv,6,none⟩ (.int .u32 (w32 tg))).setCell ⟨gv,7,none⟩ (.int .u32 (w32 th))):=
       (((((((KeepsOthers.setCell _ _ _).trans (KeepsOthers.setCell _ _ _)).trans (KeepsOthers.setCell _ _ _)).trans (KeepsOthers.setCell _ _ _)).trans (KeepsOthers.setCell _ _ _)).trans (KeepsOthers.setCell _ _ _)).trans (KeepsOthers.setCell _ _ _)).trans (KeepsOthers.setCell _ _ _)
      clear d0 d1 d2 d3 d4 d5 d6 d7 f0 f1 f2 f3 f4 f5 f6 f7;generalize ((((((((V2.setCell ⟨gv,0,none⟩ (.int .u32 (w32 ta))).setCell ⟨gv,1,none⟩ (.int .u32 (w32 tb))).setCell ⟨gv,2,none⟩ (.int .u32 (w32 tc))).setCell ⟨gv,3,none⟩ (.int .u32 (w32 td))).setCell ⟨gv,4,none⟩ (.int .u32 (w32 te))).setCell ⟨gv,5,none⟩ (.int .u32 (w32 tf))).setCell ⟨gv,6,none⟩ (.int .u32 (w32 tg))).setCell ⟨gv,7,none⟩ (.int .u32 (w32 th)))=V3 at *;have hsz0:=hsz.o;have hsz2:=HBB.o.size;refine⟨(keeps_of_below HBB.o).trans hko,?_,?_,?_,?_,?_,?_⟩
      ·intro k hk hne;exact(hgr.block k (by omega) (by simp;exact hne)).trans (HBB.o.block k (by omega))
      ·have e : stL (padded bs) ((pre ++ [x]).map Fin.val) = ⟨ta, tb, tc, td, te, tf, tg, th⟩ := by
        rw[List.map_append];show stL (padded bs) (pre.map Fin.val++[x.val])=_
        rw[HSN.o,HTT.o]
       show Blk _ _ _ ((stL (padded bs) ((pre++[x]).map Fin.val)).toList.map W)
       rw[e];exact hfin
      ·exact(hres.o.call HBB.o).grown hgr (by simp;omega)
      ·exact own_kept (own_below hown.o HBB.o) hgr (fun k hk=>by cases hk;simp;omega)
      ·exact(below_step hbw.o (by omega) HBB.o).grown hgr (by omega) (by intro k hk;cases hk;omega)
      ·show _≤V3.heap.size
       have:=hgr.size;omega
     case done =>
      rintro D ys V hD hS ⟨hv,hres,hown,hbw,hsz⟩ hK;have hstate:stL (padded bs) (ys.map Fin.val)=stB (padded bs) nb:=by rw[hS,stL_range]
      rw[hstate]at hv;have HK:=kp hK;have HD:=kp hD;clear hK hD hS hstate;generalize hst:stB (padded bs) nb=s at *;have hsha:sha bs=outB s:=by rw[sha_eq,← hst,HNB.o,Nat.mul_div_cancel_left _ (by omega)]
      have HSHA:=kp hsha;clear hst hsha hown;obtain⟨SV,hSV⟩:=xe (s.toList.map W);rw[← hSV]at hv;have HSI:=kq (∀i,i < 8→SV[i]? = some (W (s.at_ i))) (fun i hi=>by rw[hSV];exact s.get_at i hi);have HSL:=kq (SV.length=8) (by rw[hSV];rfl);clear hSV;go_wp2_with (with_reducible first|refine wpl_alloc (o:=⟨some 7,_,_,_,_,_⟩) rfl rfl zero_id ?_);intro V1 hb1 hbw1 hsz1;have HO1:=kp hb1;have HW1:=kp hbw1;have HV1:=kp (hv.o.call hbw1);have hgo:V1.heap.size=V.heap.size+1:=hsz1;clear hb1 hbw1 hsz1;generalize hgoo:V.heap.size=go at *;have HGO:=kp hgoo;have HSZO:=kp hgo;clear hgoo hgo;go_wp2_with (with_reducible refine wlb 37 row_8 HV1.o HSL.o ?_);obtain⟨wo,rfl⟩:∃wo:World,wo=V1:=⟨_,rfl⟩;go_wp2_with fail;go_loopw [38] (fun i wr=>∃k:Nat,∃xs:List Value,k≤8∧i=.int .i64 k∧Hid (Blk wr go 46 xs)∧Hid (xs.length=32∧xs.take (4*k)=((outB s).take (4*k)).map B)∧Hid (Below go V wr)) (fun i _=>8 - (intOf i).toNat)
      case atStart=>exact⟨0,_,by omega,rfl,HO1,⟨by simp,by simp⟩,HW1⟩
      case round =>
       obtain⟨k,xs,hk,rfl,hout,hxs,hbe⟩:=hrel;by_cases hlt:k < 8
       ·have hidx:=fun w=>run_index_agg (P:=Tryz.prog) (T:=185) (e:=175) (k:=k) Tryz.underlying185 HSL.o (by kernel_rfl) (by kernel_rfl) (HSI.o k hlt) w
        have hsnoc:=outB_take s k hlt;have HSNOC:=kp hsnoc;clear hsnoc;generalize hxk:s.at_ k=x at *;clear hxk;unfold W at hidx;have hx32:=w32_range x;obtain⟨b0,b1⟩:=hx32;have z4:(4*(k:Int)).toNat=4*k:=by omega
        have y4:IntKind.i64.wrap (4*(k:Int))=4*(k:Int):=IntWalk.i64_in _ (by omega);have y5:IntKind.u64.wrap (w32 x)=w32 x:=by rw[IntKind.wrap_u64];omega
        have q0:0≤4*(k:Int):=by omega
        have q1:4*(k:Int)≤32:=by omega
        have q2:¬ 32=4*k:=by omega
        have q3:4*k≤32:=by omega
        repeat' (first|go_values|go_skip|go_guarded|(go_step;fail_if_success (with_reducible refine(wpIn_wide (n:=2) (c:=Code.region 15 _ _)).1 ?_))|go_upon|go_back)
        go_step
        refine wp_normal ?_
        have hby:Calls Tryz.prog 104 #[.int .u64 (w32 x),.int .i64 4] wr.drew fun e w'=>∃g,e=.returned (.slice (some ⟨g,0,none⟩) 4 4)∧w'.ownsRow wr.heap.size 5 1 (.slice (some ⟨g,0,none⟩) 4 4) 4 ((beBytes x.toNat 4).map B)∧Below wr.heap.size wr w':=by
         refine(bytes_any x.toNat 4 wr.drew (by have:=x.toNat_lt;omega) (by omega) (by omega)).mono ?_;rintro e w' ⟨g,h1,h2,h3⟩;exact⟨g,h1,h2,⟨h3.os,h3.tape,h3.output,h3.size,h3.block⟩⟩
        have HBY:=kp hby;clear hby;have hmin:min 4 (32 - 4*k)=4:=by omega
        have hmin2:min (32 - 4*k) 4=4:=by omega
        have q9:4≤32 - 4*k:=by omega
        have HFIT:=kq (4*k+4≤xs.length) (by have:=hxs.o.1;omega)
        go_region_with (go_at_call 104;refine HBY.o.mono ?_;rintro e w3 ⟨gq,rfl,hownq,hbq⟩;(have hcp:=run_copy_blk (P:=Tryz.prog) (dT:=70) (sT:=70) (ty:=3) (dc:=32 - 4*k) Tryz.underlying70 (by kernel_rfl) (hout.o.call hbq) hownq q9 HFIT.o (all_bytes _));(have HQ:=kp hownq);(have HBQ:=kp hbq);clear hownq hbq)
        dsimp only [NormalOnly]
        clear z4 y4 y5 q0 q1 q2 hidx;go_wp2_with fail;have hblk3:=hout.o.call HBQ.o;have hrl:=hbe.o.size;have hbl:=beBytes_length x.toNat 4;go_roundw
        case rel =>
         refine⟨k+1,splice xs (4*k) ((beBytes x.toNat 4).map B),by omega,by simp,?_,?_,?_⟩
         ·exact blk_setRow hblk3
         ·show _∧_
          have hf:4*k+((beBytes x.toNat 4).map B).length≤xs.length:=by rw[List.length_map,hbl];exact HFIT.o
          refine⟨by rw[length_splice _ _ _ hf];exact hxs.o.1,?_⟩;have h1:=splice_take xs ((beBytes x.toNat 4).map B) (4*k) (by omega);rw[List.length_map,hbl,show 4*k+4=4*(k+1) by omega]at h1;rw[h1,hxs.o.2,HSNOC.o,List.map_append]
         ·exact below_setRow (below_step hbe.o (by have:=hout.o.lt;omega) HBQ.o) (Nat.le_refl _) _
        case measure=>simp [intOf];omega
       ·obtain rfl:k=8:=by omega
        obtain⟨hx1,hx2⟩:=hxs.o
        have hxx:xs=(outB s).map B:=by
         rw[← List.take_of_length_le (l:=xs) (i:=4*8) (by omega),hx2,List.take_of_length_le (by rw[outB_length];omega)]
        have HXX:=kp hxx;have hxn:xs.length=32:=hx1;have h1:∀v∈xs,v.oneCell'=true:=by rw[hxx];exact all_bytes _
        have HB9:=kp (hres.o.below (hbe.o) (by have:=hres.o.lt;have:=HGO.o;omega));have HX1:=kp h1;clear h1 hxx hx1 hx2;go_wp2_with (with_reducible first|refine wlb 50 row_32 hout.o hxn ?_|refine wsb row_32 HB9.o len32 hxn HX1.o ?_);intro w11 hb11 hg11 hsz11;have hdl:=(Array.getElem?_eq_some_iff.1 HK.o).1;have hkk:=HK.o;have hgo:=HGO.o
        have hDg:D≠g:=by
         rintro rfl;have h2:=HB9.o;have h3:=hbe.o.block D (by omega);unfold Blk at h2;rw[h3,hkk]at h2;cases h2
        have hK11:=((hg11.block D (Nat.lt_of_lt_of_le hdl hbe.o.size) (by simp;exact hDg)).trans (hbe.o.block D (by omega))).trans hkk;have HK11:=kp hK11;clear hK11 hkk;have HB11:=kp hb11;have HG11:=kp hg11;clear hb11 hg11;go_wp2_with fail;refine⟨by simp,.inl ⟨_,_,rfl,run_takeDeferred HK11.o,?_⟩⟩;have h0:=HD.o;have hs0:=HSZ10.o;have hVb:Below V.heap.size V wr:=by rw[HGO.o];exact hbe.o
        have hbV:=below_step hbw.o (by omega) hVb;have hb11:=hbV.grown HG11.o (Nat.le_of_lt HB9.o.lt) (by intro k hk;cases hk;omega);have hb12:=hb11.grown (grownBy_putObj' w11 D (.deferred none)) (Nat.le_of_lt HB11.o.lt) (by intro k hk;cases hk;omega);have hrw:Blk (w11.putObj D (.deferred none)) g 46 xs:=(World.putObj_heap_other (by omega)).trans HB11.o;refine⟨_,results_cell_row rfl _ _ g _ xs.toArray (0,0) _ rfl hrw Tryz.underlying46 rfl (by rw[List.size_toArray,hxn];kernel_rfl),?_,?_⟩
        ·rw[HSHA.o,HXX.o]
        ·rw[HG.o];exact hb12
end Go.Proofs.YtnnjjbkdjkjnpaaGreatDoor
namespace Go.Proofs.YtnnjjbkdjkjnpaaGreatDoor
open Go.RowKit Go.Shelf
attribute [local go_sem ↓ high] add_w
attribute [local go_sem high] xor_w and_w or_w not_w shr_w shl_w wrap_b8
theorem info_u32:(Tryz.prog.info? 175).map (fun i=>(i.zero,i.size,i.bytes))=some (some (.int .u32 0),1,4):=by kernel_rfl
theorem el_u32:ElemT Tryz.prog 149 175 1 4:=elemT Tryz.underlying149 info_u32 rfl (by omega)
theorem right_any (x : UInt32) (n : Nat) (w : World) (h2 : 1 ≤ n) (h3 : n ≤ 31) :
  Calls Tryz.prog 108 #[.int .u32 (w32 x),.int .i64 n] w fun e w'=>e=.returned (.int .u32 (w32 (rotr x (UInt32.ofNat n))))∧∃m,w'=w.drewN m:=by
 have q0:0≤(n:Int):=by omega
 have q1:(n:Int)≤31:=by omega
 have q2:IntKind.i64.wrap (32 - (n:Int))=32 - (n:Int):=IntWalk.i64_in _ (by omega);have q3:0≤32 - (n:Int):=by omega
 have q4:32 - (n:Int)≤31:=by omega
 have q5:(32 - (n:Int)).toNat=32 - n:=by omega
 go_enter Tryz.func108,Tryz.ntmps108
 repeat' (first|(with_reducible refine wp_region_quiet_lit (id:=1) (by kernel_rfl) (by kernel_rfl) ?_)|go_values|go_skip|go_guarded|go_step|go_upon|go_back)
 repeat (quiet_step (fail))
 refine wpQuiet_nil ?_;intro _ hw';obtain⟨nq,hw''⟩:=hw';subst hw'';clear q2 q3 q4 q5 q0 q1;go_wp2_with fail;go_ret
 refine⟨?_,nq,rfl⟩;rw[rotr]
 have e:UInt32.ofNat (32 - n)=32 - UInt32.ofNat n:=by
  apply UInt32.toNat_inj.1
  rw[UInt32.toNat_sub_of_le _ _ (by rw[UInt32.le_iff_toNat_le,UInt32.toNat_ofNat'];simp;omega),UInt32.toNat_ofNat',UInt32.toNat_ofNat'];simp;omega
 rw[← e];simp;rw[IntKind.wrap_u32,shl_nat x _ (by omega),shr_nat x n h3,bits_or_w]
theorem right_k (x : UInt32) (z : Int) (n : UInt32) (k : Nat) (hz : z = (k : Int)) (hn : n = UInt32.ofNat k) (h2 : 1 ≤ k) (h3 : k ≤ 31) (w : World) :
  Calls Tryz.prog 108 #[.int .u32 (w32 x),.int .i64 z] w fun e w'=>e=.returned (.int .u32 (w32 (rotr x n)))∧∃m,w'=w.drewN m:=by
 subst hz;subst hn;exact right_any x k w h2 h3
theorem r7(x:UInt32)(w:World):Calls Tryz.prog 108 #[.int .u32 (w32 x),.int .i64 7] w fun e w'=>e=.returned (.int .u32 (w32 (rotr x 7)))∧∃m,w'=w.drewN m:=right_k x 7 7 7 rfl rfl (by omega) (by omega) w
theorem r18(x:UInt32)(w:World):Calls Tryz.prog 108 #[.int .u32 (w32 x),.int .i64 18] w fun e w'=>e=.returned (.int .u32 (w32 (rotr x 18)))∧∃m,w'=w.drewN m:=right_k x 18 18 18 rfl rfl (by omega) (by omega) w
theorem r17(x:UInt32)(w:World):Calls Tryz.prog 108 #[.int .u32 (w32 x),.int .i64 17] w fun e w'=>e=.returned (.int .u32 (w32 (rotr x 17)))∧∃m,w'=w.drewN m:=right_k x 17 17 17 rfl rfl (by omega) (by omega) w
theorem r19(x:UInt32)(w:World):Calls Tryz.prog 108 #[.int .u32 (w32 x),.int .i64 19] w fun e w'=>e=.returned (.int .u32 (w32 (rotr x 19)))∧∃m,w'=w.drewN m:=right_k x 19 19 19 rfl rfl (by omega) (by omega) w
theorem r2(x:UInt32)(w:World):Calls Tryz.prog 108 #[.int .u32 (w32 x),.int .i64 2] w fun e w'=>e=.returned (.int .u32 (w32 (rotr x 2)))∧∃m,w'=w.drewN m:=right_k x 2 2 2 rfl rfl (by omega) (by omega) w
theorem r13(x:UInt32)(w:World):Calls Tryz.prog 108 #[.int .u32 (w32 x),.int .i64 13] w fun e w'=>e=.returned (.int .u32 (w32 (rotr x 13)))∧∃m,w'=w.drewN m:=right_k x 13 13 13 rfl rfl (by omega) (by omega) w
theorem r22(x:UInt32)(w:World):Calls Tryz.prog 108 #[.int .u32 (w32 x),.int .i64 22] w fun e w'=>e=.returned (.int .u32 (w32 (rotr x 22)))∧∃m,w'=w.drewN m:=right_k x 22 22 22 rfl rfl (by omega) (by omega) w
theorem r6(x:UInt32)(w:World):Calls Tryz.prog 108 #[.int .u32 (w32 x),.int .i64 6] w fun e w'=>e=.returned (.int .u32 (w32 (rotr x 6)))∧∃m,w'=w.drewN m:=right_k x 6 6 6 rfl rfl (by omega) (by omega) w
theorem r11(x:UInt32)(w:World):Calls Tryz.prog 108 #[.int .u32 (w32 x),.int .i64 11] w fun e w'=>e=.returned (.int .u32 (w32 (rotr x 11)))∧∃m,w'=w.drewN m:=right_k x 11 11 11 rfl rfl (by omega) (by omega) w
theorem r25(x:UInt32)(w:World):Calls Tryz.prog 108 #[.int .u32 (w32 x),.int .i64 25] w fun e w'=>e=.returned (.int .u32 (w32 (rotr x 25)))∧∃m,w'=w.drewN m:=right_k x 25 25 25 rfl rfl (by omega) (by omega) w
theorem first_vals:(firstSt.toList.map W)=[.int .u32 1779033703,.int .u32 3144134277,.int .u32 1013904242,.int .u32 2773480762,.int .u32 1359893119,.int .u32 2600822924,.int .u32 528734635,.int .u32 1541459225]:=by
 simp [firstSt,St.toList,W,w32]
theorem first_ref(w:World):Calls Tryz.prog 88 #[] w fun e w'=>∃g,e=.returned (.slice (some ⟨g,0,none⟩) 8 8)∧Sl w' w'.heap.size 1 (some ⟨g,0,none⟩) 8 (firstSt.toList.map W)∧Below w.heap.size w w':=by
 go_enter Tryz.func88,Tryz.ntmps88
 go_wp2_with fail;go_ret
 refine⟨_,rfl,?_,?_⟩
 ·have h:=Sl.lit w (firstSt.toList.map W).toArray 175 8 (sz:=1) (by simp;rfl);rw[first_vals]at h ⊢;have h2:=h.more (B':=(w.heap.size+1)) (Nat.le_refl _);simpa using h2
 ·exact(Below.refl _ _).alloc (Nat.le_refl _) _
theorem round_vals : (roundKs.map W) = [
  .int .u32 1116352408,.int .u32 1899447441,.int .u32 3049323471,.int .u32 3921009573,.int .u32 961987163,.int .u32 1508970993,.int .u32 2453635748,.int .u32 2870763221,.int .u32 3624381080,.int .u32 310598401,.int .u32 607225278,.int .u32 1426881987,.int .u32 1925078388,.int .u32 2162078206,.int .u32 2614888103,.int .u32 3248222580,
  .int .u32 3835390401,.int .u32 4022224774,.int .u32 264347078,.int .u32 604807628,.int .u32 770255983,.int .u32 1249150122,.int .u32 1555081692,.int .u32 1996064986,.int .u32 2554220882,.int .u32 2821834349,.int .u32 2952996808,.int .u32 3210313671,.int .u32 3336571891,.int .u32 3584528711,.int .u32 113926993,.int .u32 338241895,
  .int .u32 666307205,.int .u32 773529912,.int .u32 1294757372,.int .u32 1396182291,.int .u32 1695183700,.int .u32 1986661051,.int .u32 2177026350,.int .u32 2456956037,.int .u32 2730485921,.int .u32 2820302411,.int .u32 3259730800,.int .u32 3345764771,.int .u32 3516065817,.int .u32 3600352804,.int .u32 4094571909,.int .u32 275423344,
  .int .u32 430227734,.int .u32 506948616,.int .u32 659060556,.int .u32 883997877,.int .u32 958139571,.int .u32 1322822218,.int .u32 1537002063,.int .u32 1747873779,.int .u32 1955562222,.int .u32 2024104815,.int .u32 2227730452,.int .u32 2361852424,.int .u32 2428436474,.int .u32 2756734187,.int .u32 3204031479,.int .u32 3329325298]:=by
 simp [roundKs,W,w32]
theorem rounds_ref(w:World):Calls Tryz.prog 89 #[] w fun e w'=>∃g,e=.returned (.slice (some ⟨g,0,none⟩) 64 64)∧Sl w' w'.heap.size 1 (some ⟨g,0,none⟩) 64 (roundKs.map W)∧Below w.heap.size w w':=by
 go_enter Tryz.func89,Tryz.ntmps89
 go_wp2_with fail;go_ret
 refine⟨_,rfl,?_,?_⟩
 ·have h:=Sl.lit w (roundKs.map W).toArray 175 64 (sz:=1) (by simp;rfl);rw[round_vals]at h ⊢;have h2:=h.more (B':=(w.heap.size+1)) (Nat.le_refl _);simpa using h2
 ·exact(Below.refl _ _).alloc (Nat.le_refl _) _
end Go.Proofs.YtnnjjbkdjkjnpaaGreatDoor
namespace Go.Proofs.YtnnjjbkdjkjnpaaGreatDoor
open Go.RowKit Go.Shelf
attribute [local go_sem ↓ high] add_w
attribute [local go_sem high] xor_w and_w or_w not_w shr_w shl_w wrap_b8
def orUpto(a b:List UInt8)(k:Nat):UInt8:=(List.range k).foldl (fun x i=>x |||((a[i]?.getD 0) ^^^ (b[i]?.getD 0))) 0
theorem orUpto_succ(a b:List UInt8)(k:Nat):orUpto a b (k+1)=orUpto a b k |||((a[k]?.getD 0) ^^^ (b[k]?.getD 0)):=by
 unfold orUpto;rw[List.range_succ,List.foldl_append];rfl
theorem or_zero{x y:UInt8}:x ||| y=0↔x=0∧y=0:=by
 constructor
 ·intro h;have h1:x.toBitVec ||| y.toBitVec=0:=by have:=congrArg UInt8.toBitVec h;simpa using this
  have h2:=BitVec.or_eq_zero_iff.1 h1;exact⟨UInt8.toBitVec_inj.1 h2.1,UInt8.toBitVec_inj.1 h2.2⟩
 ·rintro⟨rfl,rfl⟩;rfl
theorem xor_zero{x y:UInt8}:x ^^^ y=0↔x=y:=by
 constructor
 ·intro h;have h1:x.toBitVec ^^^ y.toBitVec=0:=by have:=congrArg UInt8.toBitVec h;simpa using this
  exact UInt8.toBitVec_inj.1 (BitVec.xor_eq_zero_iff.1 h1)
 ·rintro rfl;simp
theorem orUpto_zero(a b:List UInt8)(k:Nat):orUpto a b k=0↔∀i,i < k→a[i]?.getD 0=b[i]?.getD 0:=by
 induction k with
 | zero=>exact⟨fun _ i hi=>absurd hi (by omega),fun _=>rfl⟩
 | succ k ih =>
  rw[orUpto_succ,or_zero,ih,xor_zero];constructor
  ·rintro⟨h1,h2⟩ i hi;by_cases h:i=k
   ·subst h;exact h2
   ·exact h1 i (by omega)
  ·intro h;exact⟨fun i hi=>h i (by omega),h k (by omega)⟩
theorem orUpto_all{a b:List UInt8}(ha:a.length=32)(hb:b.length=32):(orUpto a b 32=0)↔a=b:=by
 rw[orUpto_zero];constructor
 ·intro h
  apply List.ext_getElem (by omega)
  intro i h1 h2;have:=h i (by omega);rw[List.getElem?_eq_getElem h1,List.getElem?_eq_getElem h2]at this;exact this
 ·rintro rfl _ _;rfl
attribute [irreducible] orUpto
attribute [local go_sem high] xor_b or_b
theorem same_any (a b : List UInt8) (w : World) (ha : a.length = 32) (hb : b.length = 32) :
  Calls Tryz.prog 78 #[.agg (a.map B).toArray,.agg (b.map B).toArray] w fun e w'=>e=.returned (.bool (decide (a=b)))∧Below w.heap.size w w':=by
 have HE:=kp (orUpto_all ha hb);have HSU:=kp (orUpto_succ a b)
 have hca:∀k,k < 32→(a.map B)[k]? = some (.int .u8 (b8 (a[k]?.getD 0))):=fun k hk=>by
  rw[List.getElem?_map,List.getElem?_eq_getElem (by omega)];rfl
 have hcb:∀k,k < 32→(b.map B)[k]? = some (.int .u8 (b8 (b[k]?.getD 0))):=fun k hk=>by
  rw[List.getElem?_map,List.getElem?_eq_getElem (by omega)];rfl
 obtain⟨xs,hxs⟩:=xe (a.map B);obtain⟨ys,hys⟩:=xe (b.map B);rw[← hxs]at hca ⊢;rw[← hys]at hcb ⊢;have HCA:=kp hca;clear hca;have HCB:=kp hcb;clear hcb;clear hxs hys ha hb
 go_enter Tryz.func78,Tryz.ntmps78
 go_wp2_with (with_reducible first|refine wpl_box (o:=⟨some 2,_,_,_,_,_⟩) rfl rfl rfl ?_);intro w1 hb1 hbw1 hsz1;have HB1:=kp hb1;clear hb1;have HBW1:=kp hbw1;clear hbw1;have HSZ1:=kp hsz1;clear hsz1;generalize hgd:w.heap.size=g at *;have HG:=kp hgd;clear hgd;go_wp2_with (with_reducible first|refine wpl_box (o:=⟨some 3,_,_,_,_,_⟩) rfl rfl rfl ?_);intro w2 hb2 hbw2 hsz2;have HB2:=kp (HB1.o.call hbw2);have HBW2:=kp (below_step HBW1.o (by have:=HSZ1.o;omega) hbw2);rw[HSZ1.o]at hb2 hsz2 ⊢;have HC2:=kp hb2;clear hb2 hbw2 hsz2 HB1 HBW1 HSZ1;go_wp2_with fail;go_loopw [5,7] (fun x i wr=>∃k:Nat,k≤32∧i=.int .i64 k∧x=.int .u8 (b8 (orUpto a b k))∧Hid (Blk wr g 46 xs)∧Hid (Blk wr (g+1) 46 ys)∧Hid (Below g w wr)) (fun x i _=>32 - (intOf i).toNat)
 case atStart=>exact⟨0,by omega,rfl,by unfold orUpto;rfl,HB2,HC2,HBW2⟩
 case round =>
  obtain⟨k,hk,rfl,rfl,h1,h2,h3⟩:=hrel;by_cases hk32:k < 32
  ·have c1:=h1.o.at_ (HCA.o k hk32);have c2:=h2.o.at_ (HCB.o k hk32);have gk:(k:Int) < 32:=by omega
   have hs:=HSU.o k;generalize a[k]?.getD 0=x at *;generalize b[k]?.getD 0=y at *;have HSK:=kp hs;clear hs;generalize orUpto a b k=z at *;repeat' (first|(with_reducible refine wp_region_quiet_lit (id:=5) (by kernel_rfl) (by kernel_rfl) ?_)|go_values|go_skip|go_guarded|go_step|go_upon|go_back)
   repeat (quiet_step (fail))
   refine wpQuiet_nil ?_;intro _ hw';obtain⟨nq,hw''⟩:=hw';subst hw'';clear c1 c2;go_wp2_with fail;go_roundw
   case rel=>exact⟨k+1,by omega,by go_num,by rw[HSK.o],h1.o.drewN nq,h2.o.drewN nq,below_dn h3.o nq⟩
   case measure=>simp [intOf];omega
  ·obtain rfl:k=32:=by omega
   have he:=HE.o;generalize orUpto a b 32=z at *;have HZ:=kp he;clear he
   have e1:(b8 z == 0)=decide (a=b):=by
    rw[Bool.eq_iff_iff];simp only [beq_iff_eq,decide_eq_true_eq];rw[← HZ.o];constructor
    ·intro h;exact b8_inj h
    ·rintro rfl;rfl
   go_wp2_with fail;go_ret
   exact⟨rfl,by rw[HG.o];exact h3.o⟩
end Go.Proofs.YtnnjjbkdjkjnpaaGreatDoor
namespace Go.Proofs.YtnnjjbkdjkjnpaaGreatDoor
open Go.RowKit
def addEdge(o:Oper):Oper:={ o with after:=o.after.push ⟨0,.data⟩ }
def withE(l:List Oper)(n:Nat):List Oper:=l.modify n addEdge
def start0(l:List Oper):Array Bool:=(Array.replicate l.length false).setIfInBounds 0 true
def noAfter(l:List Oper):Bool:=match l[0]? with|some o=>o.after.isEmpty|none=>false
def tail0B(l:List Oper)(n:Nat):Bool:=
 Region.noSelect l.toArray && Region.free .any l.toArray (Array.replicate l.length false) 0 && (Region.ready .any l.toArray (Array.replicate l.length false)).contains 0
 && Region.noSelect (withE l n).toArray && decide (n < l.length) && decide (1≤n) && Region.sinkB .any (withE l n).toArray n && Region.chainB .any (withE l n).toArray n
 && Region.lexHead .any (withE l n).toArray (l.length - n) (n - 1) 1 (start0 l) && noAfter l
section
variable {P:Program} {l:List Oper} {n:Nat}
theorem withE_at(l:List Oper)(n i:Nat):(withE l n)[i]? = if i=n then(l[i]?).map addEdge else l[i]?:=by
 unfold withE;rw[List.getElem?_modify];by_cases h:n=i
 ·subst h;simp
 ·rw[if_neg (fun e=>h e.symm)];cases l[i]? <;> simp [h]
theorem withE_length(l:List Oper)(n:Nat):(withE l n).length=l.length:=by simp [withE]
theorem yielded_withE(l:List Oper)(n:Nat)(t:Array Value):yielded (withE l n).toArray t=yielded l.toArray t:=by
 funext j
 have h:(((withE l n).toArray[j]?).bind (·.dst))=((l.toArray[j]?).bind (·.dst)):=by
  simp only [List.getElem?_toArray,withE_at];split
  ·cases l[j]? <;> rfl
  ·rfl
 unfold yielded;rw[h]
theorem ready_withE{listed:Array Bool}(h0:listed.getD 0 false=true)(md:Region.Mode):Region.ready md (withE l n).toArray listed=Region.ready md l.toArray listed:=by
 unfold Region.ready;simp only [List.size_toArray,withE_length,List.getElem?_toArray,withE_at]
 apply List.filter_congr
 intro i _;by_cases h:i=n
 ·subst h;rw[if_pos rfl];cases l[i]? with
  | none=>rfl
  | some o=>simp only [Option.map_some,addEdge,Option.getD_some,Array.all_push,h0,Bool.or_true,Bool.and_true]
 ·rw[if_neg h]
theorem wpOp_withE(Q:Exit→Act→World→Prop)(i:Nat)(K:Act→World→Prop)(a:Act)(w:World):wpOp P (withE l n).toArray Q i K a w=wpOp P l.toArray Q i K a w:=by
 unfold wpOp;simp only [List.getElem?_toArray,withE_at,yielded_withE];by_cases h:i=n
 ·rw[if_pos h];cases l[i]? <;> rfl
 ·rw[if_neg h]
theorem set_keeps{listed:Array Bool}(h0:listed.getD 0 false=true)(i:Nat):(listed.setIfInBounds i true).getD 0 false=true:=getD_set_true h0
theorem wpAny_withE(Q:Exit→Act→World→Prop)(md:Region.Mode):∀(f:Nat) (listed:Array Bool) (a:Act) (w:World),listed.getD 0 false=true→wpAny P md (withE l n).toArray Q f listed a w→wpAny P md l.toArray Q f listed a w
 | 0,listed,a,w,h0,h=>by unfold wpAny at h ⊢;rw[ready_withE h0]at h;exact h
 | f+1,listed,a,w,h0,h=>by
  unfold wpAny at h ⊢;rw[ready_withE h0]at h;refine⟨h.1,fun i hi=>?_⟩;have h2:=h.2 i hi;rw[wpOp_withE]at h2;exact wpOp_mono (fun a' w' h3=>wpAny_withE Q md f _ a' w' (set_keeps h0 i) h3) h2
theorem wpList_withE(Q:Exit→Act→World→Prop):∀(m:List Oper) (a:Act) (w:World),wpList P l.toArray Q m a w→wpList P (withE l n).toArray Q m a w
 |[],a,w,h=>h
 | o::m,a,w,h=>by
  unfold wpList at h ⊢;rw[yielded_withE];split
  ·rename_i hw;rw[if_pos hw]at h;rcases h with h|h
   ·exact .inl (Oper.wp_mono (fun a w h=>wpList_withE Q m a w h) h)
   ·exact .inr h
  ·rename_i hw;rw[if_neg hw]at h;exact wpList_withE Q m _ w h
theorem wpStill_withE{w:World}{Q:Act→Prop}:∀(m:List Oper) (a:Act),wpStill P l.toArray w Q m a→wpStill P (withE l n).toArray w Q m a
 |[],a,h=>h
 | o::m,a,h=>by
  unfold wpStill at h ⊢;rw[yielded_withE];split
  ·rename_i hw;rw[if_pos hw]at h;exact Oper.still_mono (fun a h=>wpStill_withE m a h) h
  ·rename_i hw;rw[if_neg hw]at h;exact wpStill_withE m _ h
theorem wpList_drop(Q:Exit→Act→World→Prop)(a:Act)(w:World)(ops:Array Oper)(h:wpList P ops Q (l.drop n) a w):wpList P ops Q ((withE l n).drop n) a w:=by
 have e:(withE l n).drop n=match l.drop n with|[]=>[]|o::m=>addEdge o::m:=by
  apply List.ext_getElem?
  intro i;rw[List.getElem?_drop,withE_at];cases hd:l.drop n with
  | nil =>
   have:l[n+i]? = none:=by rw[← List.getElem?_drop,hd];rfl
   rw[this];split <;> rfl
  | cons o m =>
   have h2:l[n+i]? =(o::m)[i]?:=by rw[← List.getElem?_drop,hd]
   rw[h2];cases i with
   | zero=>simp
   | succ i=>rw[if_neg (by omega)];rfl
 rw[e];cases hd:l.drop n with
 | nil=>rw[hd]at h;exact h
 | cons o m=>rw[hd]at h;exact h
theorem wp_tail0 {id : Nat} {Q : Exit → Act → World → Prop} {a : Act} {w : World} {o0 : Oper} {x : Operand} (n : Nat) (hm : P.follows .mixedOrders = true) (h0 : l[0]? = some o0) (hg : o0.guard = none) (hop : o0.op = .move x) (hB : tail0B l n = true)
  (h:∀w2,Drawn w w2→wpStill P l.toArray w2 (fun a'=>wpList P l.toArray (NormalOnly Q) (l.drop n) a' w2) ((l.take n).drop 1) (a.put o0.dst (a.eval x))):(Code.region id l.toArray true).wp P Q a w:=by
 refine wp_normal ?_;simp only [tail0B,Bool.and_eq_true,decide_eq_true_eq]at hB;obtain⟨⟨⟨⟨⟨⟨⟨⟨⟨hsel,hfree⟩,hready⟩,hsel'⟩,hn⟩,hn1⟩,hs⟩,hc⟩,hlex⟩,hna⟩:=hB;have hH:=h { w with drawn:=w.drawn+1 } ⟨1,rfl⟩;generalize hw2:{ w with drawn:=w.drawn+1 }=w2 at hH;refine wp_region_any hm ?_;rw[hw2,List.size_toArray];have hy:Yields P l.toArray o0 (a.eval x) a:=.inl ⟨by simp [Region.wanted,hg],fun w=>by simp [execOp,hop]⟩;obtain⟨f,hf⟩:∃f,l.length=f+1:=⟨l.length - 1,by omega⟩;rw[hf];refine wpAny_take (i:=0) (by simpa using h0) hsel (by rw[← hf];exact hfree) (by rw[← hf];exact hready) (fun _ _ _ h=>h) hy ?_
 have hst:(start0 l).getD 0 false=true:=by
  unfold start0;simp [show 0 < l.length by omega]
 rw[← hf];refine wpAny_withE (n:=n) _ _ _ _ _ _ hst ?_;have htl:(((withE l n).take n).drop 1).length=n - 1:=by simp [withE_length];omega
 have hdl:((withE l n).drop n).length=l.length - n:=by simp [withE_length]
 have inv0:HeadInv .any (withE l n).toArray n (start0 l):=by
  refine⟨by simp [start0,withE_length],fun j oj hj hl e he _=>?_,fun t ht ht2=>?_⟩
  ·by_cases hj0:j=0
   ·subst hj0;rw[List.getElem?_toArray,withE_at,if_neg (by omega),h0]at hj;cases hj
    unfold noAfter at hna;rw[h0]at hna;simp only [Array.isEmpty_iff]at hna;rw[hna]at he;simp at he
   ·exfalso
    unfold start0 at hl;rw[getD_set_ne false (by omega),getD_replicate_false]at hl;cases hl
  ·unfold start0;rw[getD_set_ne true (by omega)];exact getD_in (by simp;simp [withE_length]at ht2;omega) (getD_replicate_false _ _)
 have hhead:((withE l n).take n).drop 1=(l.take n).drop 1:=by
  apply List.ext_getElem?
  intro i;rw[List.getElem?_drop,List.getElem?_drop,List.getElem?_take,List.getElem?_take,withE_at];split
  ·rw[if_neg (by omega)]
  ·rfl
 have H:=wpAnyL_lex (P:=P) (md:=.any) (g:=l.length - n) hsel' hs hc (by simpa [withE_length] using hn) (((withE l n).take n).drop 1) 1 (start0 l) (a.put o0.dst (a.eval x)) (fun j hj=>by
  rw[htl]at hj
  rw[List.getElem?_drop,List.getElem?_take,if_pos (by omega),List.getElem?_toArray]) (by rw[htl];omega) inv0 (by rw[htl];exact hlex) (by
   rw[hhead]
   exact wpStill_withE (n:=n) _ _ hH)
 have:=wpAny_of_head (Q':=NormalOnly Q) (g:=l.length - n) (fun listed a' hL=>by
  have:=wpAny_of_seq (P:=P) (md:=.any) (Q':=NormalOnly Q) ((withE l n).drop n) n listed a' w2 (fun j=>by simp [List.getElem?_drop]) (by rw[hdl];exact hL.1) (wpList_withE (n:=n) _ _ _ _ (wpList_drop (n:=n) _ _ _ _ hL.2))
  rwa [hdl]at this) _ _ _ H
 rw[htl,show n - 1+(l.length - n)=f by omega]at this;exact this
end
end Go.Proofs.YtnnjjbkdjkjnpaaGreatDoor
namespace Go.Proofs.YtnnjjbkdjkjnpaaGreatDoor
open Go.RowKit Go.Shelf
def digB(n:Nat):UInt8:=if n < 10 then UInt8.ofNat (48+n) else UInt8.ofNat (87+n)
def hexB(bs:List UInt8):List UInt8:=bs.flatMap fun x=>[digB (x.toNat / 16),digB (x.toNat % 16)]
def digStr:ByteArray:=⟨#[48,49,50,51,52,53,54,55,56,57,97,98,99,100,101,102]⟩
theorem digStr_size:digStr.size=16:=by decide +kernel
theorem fold_digStr:(⟨#[48,49,50,51,52,53,54,55,56,57,97,98,99,100,101,102]⟩:ByteArray)=digStr:=rfl
theorem digStr_at:∀i:Fin 16,(digStr[i.val]?).getD 0=digB i.val:=by decide +kernel
theorem run_index_digits {P : Program} (w : World) (t : TypeId) (k : IntKind) (i : Int) (h : P.underlying t = some .string) (h0 : 0 ≤ i) (h1 : i ≤ 15) :
  (Instr.index t (.string digStr) (.int k i)).run P w=.ok (.int .u8 (b8 (digB i.toNat))) w:=by
 have hi:0≤i∧i < (digStr.size:Int):=by rw[digStr_size];omega
 have h2:i.toNat < digStr.size:=by rw[digStr_size];omega
 rw[run_index_string w t digStr k i h,dif_pos hi];have:=digStr_at ⟨i.toNat,by omega⟩;simp only [ByteArray.getElem?_lt' _ _ h2,Option.getD_some]at this;rw[this];rfl
attribute [irreducible] hexB digB digStr
attribute [local go_sem high] fold_digStr run_index_digits
end Go.Proofs.YtnnjjbkdjkjnpaaGreatDoor
namespace Go.Proofs.YtnnjjbkdjkjnpaaGreatDoor
open Go.RowKit Go.Shelf
theorem conv_abc(w:World):(convert 70 70 (.slice (some ⟨w.heap.size,0,none⟩) 3 3)).run Tryz.prog (w.alloc (.cells #[.int .u8 97,.int .u8 98,.int .u8 99] 5))=.ok (.slice (some ⟨w.heap.size,0,none⟩) 3 3) (w.alloc (.cells #[.int .u8 97,.int .u8 98,.int .u8 99] 5 (3,4))):=
 Go.Lib.run_convert_bytes_const w 70 5 #[.int .u8 97,.int .u8 98,.int .u8 99] 3 3 Tryz.underlying70 (by kernel_rfl)
attribute [local go_sem high] conv_abc
end Go.Proofs.YtnnjjbkdjkjnpaaGreatDoor

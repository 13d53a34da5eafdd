/- Contracts of the small functions of package sha. -/
import Derived.Test.YtnnjjbkdjkjnpaaGreatDoorSpendPlaysRb1
import Derived.Test.YtnnjjbkdjkjnpaaGreatDoorRows
import Derived.OpenShut
import Derived.ChangeSame
import Derived.Test.YtnnjjbkdjkjnpaaGreatDoorCards
import Derived.Test.YtnnjjbkdjkjnpaaGreatDoorTie
import Derived.ProofKit
import Derived.Deep.DeepHandedRow
import Derived.Lib.LaidTab
import Derived.Laws.FloatArith
set_option linter.unusedSimpArgs false
set_option linter.unusedVariables false
set_option maxRecDepth 100000
set_option maxHeartbeats 16000000
namespace Go.Proofs.YtnnjjbkdjkjnpaaGreatDoor
open Go.RowKit
attribute [local go_sem ↓ high] add_w
attribute [local go_sem high] xor_w and_w or_w not_w shr_w shl_w wrap_b8
theorem neg_and(n:Nat)(h:1≤n)(h3:n≤31):bits BinOp.and IntKind.u64 (IntKind.u64.wrap (-(n:Int))) 31=((32 - n:Nat):Int):=by
 have:∀n:Fin 32,1≤n.val→bits BinOp.and IntKind.u64 (IntKind.u64.wrap (-(n.val:Int))) 31=((32 - n.val:Nat):Int):=by decide +kernel
 exact this ⟨n,by omega⟩ h
theorem shl_nat(x:UInt32)(k:Nat)(hk:k≤31):w32 x*2 ^ k % 4294967296=w32 (x <<< UInt32.ofNat k):=by
 unfold w32;rw[UInt32.toNat_shiftLeft,UInt32.toNat_ofNat',Nat.shiftLeft_eq,show k % 2 ^ 32 % 32=k by omega];simp
theorem shr_nat(x:UInt32)(k:Nat)(hk:k≤31):w32 x / 2 ^ k=w32 (x >>> UInt32.ofNat k):=by
 unfold w32;rw[UInt32.toNat_shiftRight,UInt32.toNat_ofNat',Nat.shiftRight_eq_div_pow,show k % 2 ^ 32 % 32=k by omega];simp
theorem bits_or_w(a b:UInt32):bits BinOp.or IntKind.u32 (w32 a) (w32 b)=w32 (a ||| b):=by
 have h:=or_w a b;rw[intBits_or]at h;injection h with h
 injection h
theorem turn_any (x : UInt32) (n : Nat) (w : World) (h2 : 1 ≤ n) (h3 : n ≤ 31) :
  Calls Tryz.prog 130 #[.int .u32 (w32 x),.int .i64 n] w fun e w'=>e=.returned (.int .u32 (w32 (rotr x (UInt32.ofNat n))))∧w=w':=by
 have hn:=neg_and n h2 h3
 go_enter Tryz.func130,Tryz.ntmps130
 go_wp2
 go_ret
 refine⟨?_,rfl⟩;simp;rw[shl_nat x _ (by omega),show 32 - (32 - n)=n by omega,shr_nat x n h3,bits_or_w,rotr,UInt32.or_comm]
 congr 3
 apply UInt32.toNat_inj.1
 rw[UInt32.toNat_sub_of_le _ _ (by rw[UInt32.le_iff_toNat_le,UInt32.toNat_ofNat'];simp;omega),UInt32.toNat_ofNat',UInt32.toNat_ofNat'];simp;omega
theorem Sl.byte{w:World}{Bd n:Nat}{A:Option Addr}{bs:List UInt8}(h:Sl w Bd 1 A n (bs.map B)){k:Nat}(hk:k < n):∃b off,A=some ⟨b,off,none⟩∧b < Bd∧k < bs.length∧w.cell? ⟨b,off+k,none⟩=some (.int .u8 (b8 (bs[k]?.getD 0))):=by
 obtain⟨b,off,u,e,hb,hu,hc⟩:=h.at_ hk;rw[List.getElem?_map]at hu;obtain⟨z,h1,rfl⟩:=Option.map_eq_some_iff.1 hu;exact⟨b,off,e,hb,(List.getElem?_eq_some_iff.1 h1).1,by rw[hc,h1];rfl⟩
theorem turn_k (x : UInt32) (z : Int) (n : UInt32) (k : Nat) (hz : z = (k : Int)) (hn : n = UInt32.ofNat k) (h2 : 1 ≤ k) (h3 : k ≤ 31) (w : World) :
  Calls Tryz.prog 130 #[.int .u32 (w32 x),.int .i64 z] w fun e w'=>e=.returned (.int .u32 (w32 (rotr x n)))∧w'=w:=by
 subst hz;subst hn;exact(turn_any x k w h2 h3).mono fun _ _ ⟨h,h'⟩=>⟨h,h'.symm⟩
theorem t2(x:UInt32)(w:World):Calls Tryz.prog 130 #[.int .u32 (w32 x),.int .i64 2] w fun e w'=>e=.returned (.int .u32 (w32 (rotr x 2)))∧w'=w:=turn_k x 2 2 2 rfl rfl (by omega) (by omega) w
theorem t13(x:UInt32)(w:World):Calls Tryz.prog 130 #[.int .u32 (w32 x),.int .i64 13] w fun e w'=>e=.returned (.int .u32 (w32 (rotr x 13)))∧w'=w:=turn_k x 13 13 13 rfl rfl (by omega) (by omega) w
theorem t22(x:UInt32)(w:World):Calls Tryz.prog 130 #[.int .u32 (w32 x),.int .i64 22] w fun e w'=>e=.returned (.int .u32 (w32 (rotr x 22)))∧w'=w:=turn_k x 22 22 22 rfl rfl (by omega) (by omega) w
theorem t6(x:UInt32)(w:World):Calls Tryz.prog 130 #[.int .u32 (w32 x),.int .i64 6] w fun e w'=>e=.returned (.int .u32 (w32 (rotr x 6)))∧w'=w:=turn_k x 6 6 6 rfl rfl (by omega) (by omega) w
theorem t11(x:UInt32)(w:World):Calls Tryz.prog 130 #[.int .u32 (w32 x),.int .i64 11] w fun e w'=>e=.returned (.int .u32 (w32 (rotr x 11)))∧w'=w:=turn_k x 11 11 11 rfl rfl (by omega) (by omega) w
theorem t25(x:UInt32)(w:World):Calls Tryz.prog 130 #[.int .u32 (w32 x),.int .i64 25] w fun e w'=>e=.returned (.int .u32 (w32 (rotr x 25)))∧w'=w:=turn_k x 25 25 25 rfl rfl (by omega) (by omega) w
theorem t7(x:UInt32)(w:World):Calls Tryz.prog 130 #[.int .u32 (w32 x),.int .i64 7] w fun e w'=>e=.returned (.int .u32 (w32 (rotr x 7)))∧w'=w:=turn_k x 7 7 7 rfl rfl (by omega) (by omega) w
theorem t18(x:UInt32)(w:World):Calls Tryz.prog 130 #[.int .u32 (w32 x),.int .i64 18] w fun e w'=>e=.returned (.int .u32 (w32 (rotr x 18)))∧w'=w:=turn_k x 18 18 18 rfl rfl (by omega) (by omega) w
theorem t17(x:UInt32)(w:World):Calls Tryz.prog 130 #[.int .u32 (w32 x),.int .i64 17] w fun e w'=>e=.returned (.int .u32 (w32 (rotr x 17)))∧w'=w:=turn_k x 17 17 17 rfl rfl (by omega) (by omega) w
theorem t19(x:UInt32)(w:World):Calls Tryz.prog 130 #[.int .u32 (w32 x),.int .i64 19] w fun e w'=>e=.returned (.int .u32 (w32 (rotr x 19)))∧w'=w:=turn_k x 19 19 19 rfl rfl (by omega) (by omega) w
theorem word_any (A : Option Addr) (n c : Nat) (bs : List UInt8) (w : World) (hs : Sl w w.heap.size 1 A n (bs.map B)) (h4 : 4 ≤ n) :
  Calls Tryz.prog 141 #[.slice A n c] w fun e w'=>e=.returned (.int .u32 (w32 (word4 (bs[0]?.getD 0) (bs[1]?.getD 0) (bs[2]?.getD 0) (bs[3]?.getD 0))))∧Below w.heap.size w w':=by
 obtain⟨b,off,rfl,-,-,c0⟩:=hs.byte (k:=0) (by omega);obtain⟨b1,off1,e1,-,-,c1⟩:=hs.byte (k:=1) (by omega);obtain⟨b2,off2,e2,-,-,c2⟩:=hs.byte (k:=2) (by omega);obtain⟨b3,off3,e3,-,-,c3⟩:=hs.byte (k:=3) (by omega);cases e1;cases e2;cases e3
 clear hs;generalize bs[0]?.getD 0=x0 at *;generalize bs[1]?.getD 0=x1 at *;generalize bs[2]?.getD 0=x2 at *;generalize bs[3]?.getD 0=x3 at *;rw[Nat.add_zero]at c0;have g0:(0:Int) < n:=by omega
 have g1:(1:Int) < n:=by omega
 have g2:(2:Int) < n:=by omega
 have g3:(3:Int) < n:=by omega
 go_enter Tryz.func141,Tryz.ntmps141
 go_wp2_with fail
 go_quiet (fail)
 go_wp2_with fail;go_ret
 exact⟨ret_int (by rw[word4]),below_dn (Below.refl _ _) _⟩
theorem W0:Value.int .u32 0=W 0:=rfl
theorem row_64:RowT Tryz.prog 197 64:=⟨_,Tryz.underlying197,by kernel_rfl,by kernel_rfl⟩
theorem row_8:RowT Tryz.prog 185 8:=⟨_,Tryz.underlying185,by kernel_rfl,by kernel_rfl⟩
theorem row_id:RowT Tryz.prog 46 32:=⟨_,Tryz.underlying46,by kernel_rfl,by kernel_rfl⟩
theorem zero_64:(Tryz.prog.info? 197).map (·.zero)=some (some (.agg (List.replicate 64 (W 0)).toArray)):=by kernel_rfl
theorem zero_id:(Tryz.prog.info? 46).map (·.zero)=some (some (.agg (List.replicate 32 (B 0)).toArray)):=by kernel_rfl
theorem sched_any (A : Option Addr) (c : Nat) (bs : List UInt8) (w : World) (hs : Sl w w.heap.size 1 A 64 (bs.map B)) (hc : 64 ≤ c) :
  Calls Tryz.prog 129 #[.slice A 64 c] w fun e w'=>e=.returned (.agg ((sched bs).map W).toArray)∧Below w.heap.size w w':=by
 have HS:=kp hs;clear hs
 go_enter Tryz.func129,Tryz.ntmps129
 go_wp2_with (with_reducible refine wpl_alloc (o:=⟨some 2,_,_,_,_,_⟩) rfl rfl zero_64 ?_);intro w1 hb1 hbw1 hsz1;have HB1:=kp hb1;clear hb1;have HBW1:=kp hbw1;clear hbw1;generalize hgd:w.heap.size=g at *;have HG:=kp hgd;clear hgd;have HSZ:=kp hsz1;clear hsz1;obtain⟨b,off,rfl,hbb,-⟩:=HS.o.2 (by omega);go_wp2_with fail;go_loopw [7] (fun i wr=>∃k:Nat,∃xs:List Value,k≤16∧i=.int .i64 k∧Hid (Blk wr g 197 xs)∧Hid (xs.length=64∧∀i,i < k→xs[i]? = some (W (sw bs i)))∧Hid (Below g w wr)) (fun i _=>16 - (intOf i).toNat)
 case atStart=>exact⟨0,_,by omega,rfl,HB1,⟨by simp,fun i hi=>absurd hi (by omega)⟩,HBW1⟩
 case round =>
  obtain⟨k,xs,hk,rfl,hblk,hxs,hbw⟩:=hrel;by_cases hlt:k < 16
  ·have i0:(4*(k:Int)).toNat=4*k:=by omega
   have i1:4*(k:Int)≤64:=by omega
   have i2:¬ c=4*k:=by omega
   go_wp2_with fail;have hsl:=HS.o.below hbw.o;have hle:g≤wr.heap.size:=by have:=hblk.o.lt;omega
   have hsl2:=(hsl.from_ (k:=4*k) (by omega)).more hle;rw[← List.map_drop]at hsl2;refine(word_any _ _ _ _ _ hsl2 (by omega)).mono ?_;rintro e w2 ⟨rfl,hb2⟩
   have hw:word4 ((bs.drop (4*k))[0]?.getD 0) ((bs.drop (4*k))[1]?.getD 0) ((bs.drop (4*k))[2]?.getD 0) ((bs.drop (4*k))[3]?.getD 0)=sw bs k:=by
    rw[sw_lo bs k hlt];simp [blkWord,List.getElem?_drop]
   rw[hw];have hblk2:=hblk.o.call hb2;have hfz:=hblk2.frozen k;obtain⟨u,hcl⟩:∃u,w2.cell? ⟨g,k,none⟩=some u:=⟨_,hblk2.at_ (List.getElem?_eq_getElem (by rw[hxs.o.1];omega))⟩;have HB2:=kp hblk2;have HBL:=kp (below_step hbw.o (by have:=hblk.o.lt;omega) hb2);clear hblk2 hb2 hsl hsl2 hw hle;go_wp2_with fail;go_roundw
   case rel=>exact⟨k+1,_,by omega,by go_num,HB2.o.set_ k _,⟨by simp [hxs.o.1],set_upto (f:=fun i=>W (sw bs i)) hxs.o.1 (by omega) hxs.o.2⟩,HBL.o.setCell (p:=⟨g,k,none⟩) (Nat.le_refl _) _⟩
   case measure=>simp [intOf];omega
  ·obtain rfl:k=16:=by omega
   rw[show((16:Nat):Int)=16 from rfl];obtain⟨wo,rfl⟩:∃wo:World,wo=wr:=⟨_,rfl⟩;go_wp2_with fail;go_loopw [4] (fun i wr=>∃k:Nat,∃xs:List Value,16≤k∧k≤64∧i=.int .i64 k∧Hid (Blk wr g 197 xs)∧Hid (xs.length=64∧∀i,i < k→xs[i]? = some (W (sw bs i)))∧Hid (Below g w wr)) (fun i _=>64 - (intOf i).toNat)
   case atStart=>exact⟨16,xs,by omega,by omega,rfl,hblk,hxs,hbw⟩
   case round =>
    clear hblk hxs hbw xs;obtain⟨k,xs,hk0,hk,rfl,hblk,hxs,hbw⟩:=hrel;by_cases hlt:k < 64
    ·have c15:=hblk.o.at_ (hxs.o.2 (k - 15) (by omega));have c2:=hblk.o.at_ (hxs.o.2 (k - 2) (by omega));have hs:=sw_hi bs k hk0 hlt;have HSW:=kp hs;clear hs;have j15:0≤(k:Int) - 15:=by omega
     have j2:0≤(k:Int) - 2:=by omega
     have l15:(k:Int) - 15 < 64:=by omega
     have l2:(k:Int) - 2 < 64:=by omega
     unfold W at c15 c2;have y15:=IntWalk.i64_in ((k:Int) - 15) (by omega);have y2:=IntWalk.i64_in ((k:Int) - 2) (by omega);have n15:15≤k:=by omega
     have n2:2≤k:=by omega
     have p15:(15:Int)≤k:=by omega
     have p2:(2:Int)≤k:=by omega
     have z15:((k:Int) - 15).toNat=k - 15:=by omega
     have z2:((k:Int) - 2).toNat=k - 2:=by omega
     repeat' (first|(with_reducible refine wp_region_quiet_lit (id:=9) (by kernel_rfl) (by kernel_rfl) ?_)|go_values|go_skip|go_guarded|go_step|go_upon|go_back)
     repeat (quiet_step (fail))
     refine wpQuiet_nil ?_;intro _ hw';obtain⟨nq,hw''⟩:=hw';subst hw'';clear y15 y2 z15 z2;clear c15 c2;repeat' (first|(with_reducible refine wp_tail (id:=10) 29 (by kernel_rfl) (by kernel_rfl) ?_)|go_values|go_skip|go_guarded|go_step|go_upon|go_back)
     intro w3 hd3;simp only [List.take_succ_cons,List.take_zero,List.drop_succ_cons,List.drop_zero];have hblk3:=hd3.blk (hblk.o.drewN nq);have hbw3:=hd3.below (below_dn hbw.o nq);clear hd3;have d16:=hblk3.at_ (hxs.o.2 (k - 16) (by omega));have d7:=hblk3.at_ (hxs.o.2 (k - 7) (by omega));have j16:0≤(k:Int) - 16:=by omega
     have j7:0≤(k:Int) - 7:=by omega
     have l16:(k:Int) - 16 < 64:=by omega
     have l7:(k:Int) - 7 < 64:=by omega
     unfold W at d16 d7;have y16:=IntWalk.i64_in ((k:Int) - 16) (by omega);have y7:=IntWalk.i64_in ((k:Int) - 7) (by omega);have n16:16≤k:=by omega
     have n7:7≤k:=by omega
     have p16:(16:Int)≤k:=by omega
     have p7:(7:Int)≤k:=by omega
     have z16:((k:Int) - 16).toNat=k - 16:=by omega
     have z7:((k:Int) - 7).toNat=k - 7:=by omega
     have HB3:=kp hblk3;have HBW3:=kp hbw3;clear hblk3 hbw3;repeat still_step
     still_call (t7 _ _)
     repeat still_step
     still_call (t18 _ _)
     repeat still_step
     still_call (t17 _ _)
     repeat still_step
     still_call (t19 _ _)
     repeat still_step
     refine wpStill_nil ?_;clear y16 y7 z16 z7 d16 d7;have hfz:=HB3.o.frozen k;obtain⟨u,hcl⟩:∃u,w3.cell? ⟨g,k,none⟩=some u:=⟨_,HB3.o.at_ (List.getElem?_eq_getElem (by rw[hxs.o.1];omega))⟩;repeat' (first|go_values|go_skip|go_guarded|go_step|go_upon|go_back)
     go_roundw
     case rel =>
      refine⟨k+1,_,by omega,by omega,by go_num,HB3.o.set_ k _,⟨by simp [hxs.o.1],?_⟩,HBW3.o.setCell (p:=⟨g,k,none⟩) (Nat.le_refl _) _⟩
      have e:sw bs k=sw bs (k - 16)+(rotr (sw bs (k - 15)) 7 ^^^ rotr (sw bs (k - 15)) 18 ^^^ sw bs (k - 15) >>> 3)+sw bs (k - 7)+(rotr (sw bs (k - 2)) 17 ^^^ rotr (sw bs (k - 2)) 19 ^^^ sw bs (k - 2) >>> 10):=by
       rw[HSW.o,sig0,sig1]
      rw[← e];exact set_upto (f:=fun i=>W (sw bs i)) hxs.o.1 (by omega) hxs.o.2
     case measure=>simp [intOf];omega
    ·obtain rfl:k=64:=by omega
     have hx:=eq_of_upto (f:=fun i=>W (sw bs i)) hxs.o.1 hxs.o.2;have hl:xs.length=64:=hxs.o.1
     have h1:∀u∈xs,u.oneCell'=true:=by
      intro u hu;rw[hx]at hu;obtain⟨i,_,rfl⟩:=List.mem_map.1 hu
      rfl
     have HX:=kp hx;have HL:=kp hl;have H1:=kp h1;clear hx hl h1;go_wp2_with (with_reducible first|refine wlb 59 row_64 hblk.o HL.o ?_|refine wsb row_64 hblk.o HL.o HL.o H1.o ?_);intro w5 hb5 hg5 _;have HB5:=kp hb5;have HBW5:=kp (hbw.o.grown hg5 (by have:=hblk.o.lt;omega) (by intro k hk;cases hk;exact Nat.le_refl _));clear hb5 hg5;repeat' (first|go_values|go_skip|go_guarded|go_step|go_upon|go_back)
     refine ret_cell rfl row_64 HB5.o rfl HL.o rfl ⟨?_,?_⟩
     ·rw[HX.o,sched_eq,List.map_map];rfl
     ·exact HG.o▸HBW5.o
end Go.Proofs.YtnnjjbkdjkjnpaaGreatDoor
namespace Go.Proofs.YtnnjjbkdjkjnpaaGreatDoor
open Go.RowKit
attribute [local go_sem ↓ high] add_w
attribute [local go_sem high] xor_w and_w or_w not_w shr_w shl_w wrap_b8
theorem info_u8:(Tryz.prog.info? 5).map (fun i=>(i.zero,i.size,i.bytes))=some (some (.int .u8 0),1,1):=by kernel_rfl
theorem el_u8:ElemT Tryz.prog 70 5 1 1:=elemT Tryz.underlying70 info_u8 rfl (by omega)
theorem bytes_any (v n : Nat) (w : World) (hv : v < 18446744073709551616) (hn : 1 ≤ n) (hn2 : n ≤ 8) :
  Calls Tryz.prog 104 #[.int .u64 v,.int .i64 n] w fun e w'=>∃g,e=.returned (.slice (some ⟨g,0,none⟩) n n)∧w'.ownsRow w.heap.size 5 1 (.slice (some ⟨g,0,none⟩) n n) n ((beBytes v n).map B)∧Below w.heap.size w w':=by
 go_enter Tryz.func104,Tryz.ntmps104
 go_wp2_with (at_make;refine wpl_make rfl rfl w.heap.size el_u8 rfl rfl ?_ ?_ ?_ ?_)
 ·omega
 ·omega
 ·exact Nat.le_refl _
 ·intro w1 xs0 hown hg;have hb1:Below w.heap.size w w1:=(Below.refl _ _).grown hg (Nat.le_refl _) (by intro k hk;cases hk);have HB1:=kp hb1;clear hb1 hg;have HO:=kp hown;clear hown;generalize hgd:w.heap.size=g at *;have HG:=kp hgd;clear hgd;go_wp2_with fail;go_loopw [11] (fun i wr=>∃k:Nat,∃xs:List Value,k≤n∧i=.int .i64 k∧Hid (wr.ownsRow g 5 1 (.slice (some ⟨g,0,none⟩) n n) n xs)∧Hid (∀i,i < k→xs[i]? = some (B (beByte v n i)))∧Hid (Below g w wr)) (fun i _=>n - (intOf i).toNat)
  case atStart=>exact⟨0,_,Nat.zero_le _,rfl,HO,fun i hi=>absurd hi (by omega),HB1⟩
  case round =>
   obtain⟨k,xs,hk,rfl,hown,hxs,hbw⟩:=hrel;by_cases hlt:k < n
   ·have hfz:=hown.o.frozenAt k;obtain⟨u,hcl⟩:=own_cell hown.o (by omega:k < n*1);have s0:0≤8*((n:Int) - 1 - k):=by omega
    have s1:8*((n:Int) - 1 - k)≤64:=by omega
    go_wp2_with fail;rw[beByte_div];have hst:=hown.o.stored k (B (beByte v n k));go_roundw
    case rel=>exact⟨k+1,_,by omega,by go_num,hst.1,set_upto (f:=fun i=>B (beByte v n i)) (by have:=hown.o.1;omega) hlt hxs.o,hbw.o.setCell (p:=⟨g,k,none⟩) (Nat.le_refl _) _⟩
    case measure=>simp [intOf];omega
   ·go_wp2_with fail;go_ret
    obtain rfl:k=n:=by omega
    have e3:=eq_of_upto (f:=fun i=>B (beByte v k i)) (by have:=hown.o.1;omega) hxs.o;have h4:=hown.o;rw[e3]at h4;exact⟨g,rfl,by rw[beBytes,List.map_map,HG.o];exact h4,HG.o▸hbw.o⟩
structure Tabs (w:World):Prop where
 first:∀j u,(firstSt.toList.map W)[j]? = some u→w.cell? ⟨0,j,none⟩=some u
 rounds:∀j u,(roundKs.map W)[j]? = some u→w.cell? ⟨1,j,none⟩=some u
theorem Tabs.below{w w':World}(h:Tabs w)(hb:Below w.heap.size w w'):Tabs w':=
 ⟨fun j u hu=>bcell hb (h.first j u hu),fun j u hu=>bcell hb (h.rounds j u hu)⟩
theorem Tabs.round{w:World}(h:Tabs w){k:Nat}(hk:k < 64):w.cell? ⟨1,k,none⟩=some (W (roundKs[k]?.getD 0)):=by
 refine h.rounds k _ ?_;have:k < roundKs.length:=by rw[roundKs_length];exact hk
 simp [this]
theorem zero_8:(Tryz.prog.info? 185).map (·.zero)=some (some (.agg (List.replicate 8 (W 0)).toArray)):=by kernel_rfl
theorem one8{a b c d e f g h:Int}:∀u∈[Value.int .u32 a,.int .u32 b,.int .u32 c,.int .u32 d,.int .u32 e,.int .u32 f,.int .u32 g,.int .u32 h],u.oneCell'=true:=by
 intro u hu;simp at hu;rcases hu with rfl|rfl|rfl|rfl|rfl|rfl|rfl|rfl <;> rfl
theorem len8{a b c d e f g h:Value}:[a,b,c,d,e,f,g,h].length=8:=rfl
theorem step_any (h : St) (A : Option Addr) (c : Nat) (bs : List UInt8) (w : World) (hs : Sl w w.heap.size 1 A 64 (bs.map B)) (hc : 64 ≤ c) (ht : Tabs w) :
  Calls Tryz.prog 119 #[.agg (h.toList.map W).toArray,.slice A 64 c] w fun e w'=>e=.returned (.agg ((compress roundKs h bs).toList.map W).toArray)∧Below w.heap.size w w':=by
 have HS:=kp hs;clear hs;have HT:=kp ht;clear ht;have hl8:∀s:St,(s.toList.map W).length=8:=fun s=>by simp [St.length]
 have h18:∀s:St,∀u∈s.toList.map W,u.oneCell'=true:=fun s u hu=>by obtain⟨x,_,rfl⟩:=List.mem_map.1 hu;rfl
 have HL8:=kp hl8;clear hl8;have H18:=kp h18;clear h18;have H0:=HL8.o h;obtain⟨HV,hHV⟩:=xe (h.toList.map W);rw[← hHV]at H0 ⊢;have HHV:=kp hHV;clear hHV;have HH0:=kp H0;clear H0
 go_enter Tryz.func119,Tryz.ntmps119
 go_wp2_with (with_reducible first|refine wpl_box (o:=⟨some 2,_,_,_,_,_⟩) rfl rfl rfl ?_);intro w1 hb1 hbw1 hsz1;have HB1:=kp hb1;clear hb1;have HBW1:=kp hbw1;clear hbw1;generalize hgd:w.heap.size=g at *;have HG:=kp hgd;clear hgd;have HSZ1:=kp hsz1;clear hsz1;go_wp2_with (with_reducible first|refine wpl_alloc (o:=⟨some 4,_,_,_,_,_⟩) rfl rfl zero_8 ?_);intro w2 hb2 hbw2 hsz2;rw[HSZ1.o]at hb2 hsz2 ⊢;have HB2:=kp hb2;clear hb2;have HSZ2:=kp hsz2;clear hsz2;have HB12:=kp (HB1.o.call hbw2);have HBW2:=kp (below_step HBW1.o (by rw[HSZ1.o];omega) hbw2);clear hbw2;go_wp2_with (with_reducible first|refine wlb 13 row_8 HB12.o HH0.o ?_|refine wpl_alloc (o:=⟨some 5,_,_,_,_,_⟩) rfl rfl zero_8 ?_);intro w3 hb3 hbw3 hsz3;rw[HSZ2.o]at hb3 hsz3 ⊢;have HB13:=kp (HB12.o.call hbw3);have HB23:=kp (HB2.o.call hbw3);have HBW3:=kp (below_step HBW2.o (by rw[HSZ2.o];omega) hbw3);clear hbw3;have HH1:=kq (∀u∈HV,u.oneCell'=true) (HHV.o▸H18.o h);have HB3:=kp hb3;clear hb3;have HSZ3:=kp hsz3;clear hsz3;go_wp2_with (with_reducible first|refine wpl_storeb (o:=⟨none,.store _ _ _,_,_,_,_⟩) rfl rfl row_8 HB3.o rfl rfl (by simp) HH0.o HH1.o ?_);intro w4 hb4 hg4 hsz4;have HB14:=kp (HB13.o.grown hg4 (by simp;omega));have HB24:=kp (HB23.o.grown hg4 (by simp));have HBW4:=kp (HBW3.o.grown hg4 (by rw[HSZ3.o];omega) (by intro k hk;cases hk;omega));have HB4:=kp hb4;clear hb4 hg4 HB1 HB2 HB12 HB13 HB23 HB3 HBW1 HBW2 HBW3;rw[HSZ3.o]at hsz4;have HSZ4:=kp hsz4;clear hsz4;go_wp2_with fail;have hsl:=(HS.o.below HBW4.o).more (show g≤w4.heap.size by rw[HSZ4.o];omega);refine(sched_any A c bs w4 hsl hc).mono ?_;rintro e w5 ⟨rfl,hbw5⟩;have HB15:=kp (HB14.o.call hbw5);have HB25:=kp (HB24.o.call hbw5);have HB5:=kp (HB4.o.call hbw5);have HBW5:=kp (below_step HBW4.o (by rw[HSZ4.o];omega) hbw5);have HSZ5:=kq (g+3≤w5.heap.size) (by have:=hbw5.size;rw[HSZ4.o]at this;omega);clear hbw5 hsl HB14 HB24 HB4 HBW4;obtain⟨SA,hSA⟩:=xe ((sched bs).map W);rw[← hSA]
 have hSI:∀k,k < 64→SA[k]? = some (W (sw bs k)):=by
  intro k hk;rw[hSA,sched_eq];simp [hk]
 have hSL:SA.length=64:=by rw[hSA];simp [sched_length]
 have HSI:=kp hSI;have HSL:=kp hSL;clear hSA hSI hSL;have HTB:=kp (fun wr (hb:Below g w wr) (k:Nat) (hk:k < 64)=>(HT.o.below (HG.o.symm▸hb)).round hk);have HL8V:=kp (fun k=>HL8.o (stN bs h k));go_wp2_with fail;go_loopw [16] (fun i wr=>∃k:Nat,k≤64∧i=.int .i64 k∧Hid (Blk wr (g+1+1) 185 ((stN bs h k).toList.map W))∧Hid (Blk wr g 185 HV)∧Hid (Blk wr (g+1) 185 (List.replicate 8 (W 0)))∧Hid (Below g w wr)∧Hid (g+3≤wr.heap.size)) (fun i _=>64 - (intOf i).toNat)
 case atStart=>exact⟨0,by omega,rfl,by rw[stN,← HHV.o];exact HB5,HB15,HB25,HBW5,HSZ5⟩
 case round =>
  obtain⟨k,hk,rfl,hv,hh,hr,hbw,hsz⟩:=hrel;by_cases hlt:k < 64
  ·have hidx:=fun w=>run_index_agg (P:=Tryz.prog) (T:=197) (e:=175) (k:=k) Tryz.underlying197 HSL.o (by kernel_rfl) (by kernel_rfl) (HSI.o k hlt) w
   have htab:=HTB.o wr hbw.o k hlt;generalize hrk:roundKs[k]?.getD 0=rk at *;have HRK:=kp hrk;clear hrk;have HNX:=kq (stN bs h (k+1)=roundF (roundKs[k]?.getD 0) (sw bs k) (stN bs h k)) (by rw[stN]);generalize hst:stN bs h k=s at *;have HST:=kp hst;clear hst;obtain⟨sa,sb,sc,sd,se,sf,sg,sh⟩:=s;have c0:wr.cell? ⟨g+1+1,0,none⟩=some (.int .u32 (w32 sa)):=hv.o.at_ rfl;have c1:wr.cell? ⟨g+1+1,1,none⟩=some (.int .u32 (w32 sb)):=hv.o.at_ rfl;have c2:wr.cell? ⟨g+1+1,2,none⟩=some (.int .u32 (w32 sc)):=hv.o.at_ rfl;have c3:wr.cell? ⟨g+1+1,3,none⟩=some (.int .u32 (w32 sd)):=hv.o.at_ rfl;have c4:wr.cell? ⟨g+1+1,4,none⟩=some (.int .u32 (w32 se)):=hv.o.at_ rfl;have c5:wr.cell? ⟨g+1+1,5,none⟩=some (.int .u32 (w32 sf)):=hv.o.at_ rfl;have c6:wr.cell? ⟨g+1+1,6,none⟩=some (.int .u32 (w32 sg)):=hv.o.at_ rfl;have c7:wr.cell? ⟨g+1+1,7,none⟩=some (.int .u32 (w32 sh)):=hv.o.at_ rfl;unfold W at htab hidx;repeat' (first|(with_reducible refine wp_region_quiet_lit (id:=5) (by kernel_rfl) (by kernel_rfl) ?_)|go_values|go_skip|go_guarded|go_step|go_upon|go_back)
   repeat (quiet_step (fail))
   refine wpQuiet_nil ?_;intro _ hw';obtain⟨nq,hw''⟩:=hw';subst hw'';repeat' (first|(with_reducible refine wp_region_quiet_lit (id:=6) (by kernel_rfl) (by kernel_rfl) ?_)|go_values|go_skip|go_guarded|go_step|go_upon|go_back)
   repeat (quiet_step (fail))
   quiet_step (exact(t6 _ _).mono fun _ _ ⟨he,hw⟩=>⟨he,_,hw⟩)
   repeat (quiet_step (fail))
   quiet_step (exact(t11 _ _).mono fun _ _ ⟨he,hw⟩=>⟨he,_,hw⟩)
   repeat (quiet_step (fail))
   quiet_step (exact(t25 _ _).mono fun _ _ ⟨he,hw⟩=>⟨he,_,hw⟩)
   repeat (quiet_step (fail))
   refine wpQuiet_nil ?_;intro _ hw';obtain⟨nq,hw''⟩:=hw';subst hw'';repeat' (first|(with_reducible refine wp_region_quiet_lit (id:=7) (by kernel_rfl) (by kernel_rfl) ?_)|go_values|go_skip|go_guarded|go_step|go_upon|go_back)
   repeat (quiet_step (fail))
   quiet_step (exact(t2 _ _).mono fun _ _ ⟨he,hw⟩=>⟨he,_,hw⟩)
   repeat (quiet_step (fail))
   quiet_step (exact(t13 _ _).mono fun _ _ ⟨he,hw⟩=>⟨he,_,hw⟩)
   repeat (quiet_step (fail))
   quiet_step (exact(t22 _ _).mono fun _ _ ⟨he,hw⟩=>⟨he,_,hw⟩)
   repeat (quiet_step (fail))
   refine wpQuiet_nil ?_;intro _ hw';obtain⟨nq,hw''⟩:=hw';subst hw'';have HS8:=kp (HL8.o ⟨sa,sb,sc,sd,se,sf,sg,sh⟩);go_wp2_with (with_reducible refine wpl_storeb (o:=⟨none,.store _ _ _,_,_,_,_⟩) rfl rfl row_8 (hv.o.drewN _) rfl rfl HS8.o len8 one8 ?_);intro w6 hb6 hg6 hsz6;have hg7:=grown_undrew hg6
   have hb7:Blk w6 (g+1+1) 185 ((stN bs h (k+1)).toList.map W):=by
    rw[HNX.o,HRK.o,roundF,tOne,tTwo,big0,big1,chF,majF];exact hb6
   have R1:=kp hb7;have R2:=kp (hh.o.grown hg7 (by simp;omega));have R3:=kp (hr.o.grown hg7 (by simp));have R4:=kp (hbw.o.grown hg7 (by have:=hsz.o;omega) (by intro k hk;cases hk;omega));have R5:=kq (g+3≤w6.heap.size) (by have:=hsz.o;omega);clear hb6 hg6 hsz6 hg7 hb7 c0 c1 c2 c3 c4 c5 c6 c7;repeat' (first|go_values|go_skip|go_guarded|go_step|go_upon|go_back)
   go_roundw
   case rel=>exact⟨k+1,by omega,by go_num,R1,R2,R3,R4,R5⟩
   case measure=>simp [intOf];omega
  ·obtain rfl:k=64:=by omega
   obtain⟨wo,rfl⟩:∃wo:World,wo=wr:=⟨_,rfl⟩;rw[show((64:Nat):Int)=64 from rfl];generalize hst:stN bs h 64=s at *;have HST:=kp hst;clear hst;have hHH:HV=h.toList.map W:=HHV.o;have HHA:=kq (∀i,i < 8→HV[i]? = some (W (h.at_ i))) (fun i hi=>by rw[hHH];exact h.get_at i hi);clear hHH;go_wp2_with fail;go_loopw [97] (fun i wr=>∃k:Nat,∃xs:List Value,k≤8∧i=.int .i64 k∧Hid (Blk wr (g+1+1) 185 (s.toList.map W))∧Hid (Blk wr g 185 xs)∧Hid (xs.length=8∧(∀i,i < k→xs[i]? = some (W ((h.add s).at_ i)))∧∀i,k≤i→i < 8→xs[i]? = some (W (h.at_ i)))∧Hid (Blk wr (g+1) 185 (List.replicate 8 (W 0)))∧Hid (Below g w wr)∧Hid (g+3≤wr.heap.size)) (fun i _=>8 - (intOf i).toNat)
   case atStart=>exact⟨0,HV,by omega,rfl,hv,hh,⟨HH0.o,fun i hi=>absurd hi (by omega),fun i _ hi=>HHA.o i hi⟩,hr,hbw,hsz⟩
   case round =>
    clear hv hh hr hbw hsz;obtain⟨k,xs,hk,rfl,hv,hh,hxs,hr,hbw,hsz⟩:=hrel;by_cases hlt:k < 8
    ·have cv:=hv.o.at_ (s.get_at k hlt);have ch:=hh.o.at_ (hxs.o.2.2 k (Nat.le_refl _) hlt);have hfz:=hh.o.frozen k;have HADD:=kp (h.add_at s k hlt);unfold W at cv ch;repeat' (first|(with_reducible refine wp_tail (id:=13) 8 (by kernel_rfl) (by kernel_rfl) ?_)|go_values|go_skip|go_guarded|go_step|go_upon|go_back)
     intro w7 hd7;simp only [List.take_succ_cons,List.take_zero,List.drop_succ_cons,List.drop_zero];have cv7:=(hd7.cell _).trans cv;have ch7:=(hd7.cell _).trans ch;have hv7:=kp (hd7.blk hv.o);have hh7:=kp (hd7.blk hh.o);have hr7:=kp (hd7.blk hr.o);have hb7:=kp (hd7.below hbw.o);have hs7:=kq (g+3≤w7.heap.size) (by rw[hd7.size];exact hsz.o);clear hd7 cv ch hfz;repeat still_step
     refine wpStill_nil ?_;have hfz:=hh7.o.frozen k;repeat' (first|go_values|go_skip|go_guarded|go_step|go_upon|go_back)
     have hb8:=hh7.o.set_ k (W ((h.add s).at_ k));rw[show W ((h.add s).at_ k)=.int .u32 (w32 (h.at_ k+s.at_ k)) by rw[HADD.o];rfl] at hb8;go_roundw
     case rel =>
      refine⟨k+1,_,by omega,by go_num,hv7.o.far (p:=⟨g,k,none⟩) (by simp;omega) _,hb8,⟨by simp [hxs.o.1],?_,?_⟩,hr7.o.far (p:=⟨g,k,none⟩) (by simp) _,hb7.o.setCell (p:=⟨g,k,none⟩) (Nat.le_refl _) _,?_⟩
      ·have:=set_upto (f:=fun i=>W ((h.add s).at_ i)) hxs.o.1 hlt hxs.o.2.1;rw[show W ((h.add s).at_ k)=.int .u32 (w32 (h.at_ k+s.at_ k)) by rw[HADD.o];rfl] at this;exact this
      ·intro i hi hi8;rw[List.getElem?_set,if_neg (by omega)];exact hxs.o.2.2 i (by omega) hi8
      ·have:=hs7.o;show g+3≤_
       simpa [World.setCell] using this
     case measure=>simp [intOf];omega
    ·obtain rfl:k=8:=by omega
     have hx:=eq_of_upto (f:=fun i=>W ((h.add s).at_ i)) hxs.o.1 hxs.o.2.1;have hx2:xs=(h.add s).toList.map W:=by rw[hx,St.list_eq,List.map_map];rfl
     have hcomp:(h.add s)=compress roundKs h bs:=by rw[compress_eq,HST.o]
     rw[hcomp]at hx2;have HX:=kp hx2;have HXL:=kp hxs.o.1;have HR8:=kq ((List.replicate 8 (W 0)).length=8) (by simp);have HX1:=kq (∀u∈xs,u.oneCell'=true) (fun u hu=>H18.o _ u (hx2▸hu));clear hx hx2 hcomp;go_wp2_with (with_reducible first|refine wlb 109 row_8 hh.o HXL.o ?_|refine wsb row_8 hr.o HR8.o HXL.o HX1.o ?_);intro w8 hb8 hg8 _;have HB8:=kp hb8;have HBW8:=kp (hbw.o.grown hg8 (by have:=hsz.o;omega) (by intro k hk;cases hk;omega));clear hb8 hg8;repeat' (first|go_values|go_skip|go_guarded|go_step|go_upon|go_back)
     refine ret_cell rfl row_8 HB8.o rfl HXL.o rfl ⟨?_,?_⟩
     ·rw[HX.o]
     ·exact HG.o▸HBW8.o
end Go.Proofs.YtnnjjbkdjkjnpaaGreatDoor
namespace Go.Proofs.YtnnjjbkdjkjnpaaGreatDoor
open Go.RowKit Go.ChangeShapes Go.WideShapes
section
variable {H:Type} {enc:TypeId×Value→H} {P:Program} {w:World} {base:Nat} {spare:Nat→Bool} {held:Bool}
theorem trod_bytes {t e : TypeId} {n : Nat} {fuel : Nat} {cs : List Value} {x : DataW H × List MemPlace} (ht : P.underlying t = some (.array n e)) (he : P.underlying e = some (.int .u8)) (hce : P.cellsOf e = 1) (hct : P.cellsOf t = n)
  (h:DataW.trod enc P w base spare held fuel t cs=some x):∃ds:List UInt8,cs=ds.map B∧ds.length=n:=by
 obtain⟨xs,m,rfl,rfl,hl,hxl,hi⟩:=DataW.trod_array ht h;rw[hct]at hl;refine⟨cs.map (fun v=>match v with|.int _ z=>UInt8.ofNat z.toNat|_=>0),?_,by rw[List.length_map,hl]⟩
 apply List.ext_getElem?
 intro i;by_cases hin:i < n
 ·have h1:=hi i hin;rw[hce,Nat.mul_one,List.getElem?_eq_getElem (by omega)]at h1;obtain⟨z,h2,_,h3⟩:=DataW.trod_int he h1
  have h4:cs[i]? = some (.int .u8 z):=by
   have:=congrArg List.head? h2;rw[List.take_one]at this;simpa using this
  have hz:=bounds_u8 h3;rw[List.getElem?_map,List.getElem?_map,h4];simp only [Option.map_some,B,b8]
  congr 2
  rw[UInt8.toNat_ofNat'];omega
 ·rw[List.getElem?_eq_none (by omega),List.getElem?_eq_none (by simp;omega)]
end
end Go.Proofs.YtnnjjbkdjkjnpaaGreatDoor
namespace Go.Proofs.YtnnjjbkdjkjnpaaGreatDoor
open Go.RowKit Go.ChangeShapes Go.WideShapes Go.ChangeAt
theorem own_knob:ownKnob Tryz.prog.godebug=none:=by kernel_rfl
theorem laid_out:laidOutB Tryz.prog=true:=by kernel_rfl
def shaLaid {H : Type} : List (String × DataW H) := [("seisin/sha.first", Rows.laid_seisin_sha_first), ("seisin/sha.rounds", Rows.laid_seisin_sha_rounds)]
theorem gFirst_named : Tryz.prog.globalNamed "seisin/sha.first" = some 0 := by kernel_rfl
theorem gRounds_named : Tryz.prog.globalNamed "seisin/sha.rounds" = some 1 := by kernel_rfl
theorem laid_two {W : World} (h : laidMet Tryz.prog shaLaid W) : Lib.TabIs Tryz.prog W "seisin/sha.first" .u32 (firstSt.toList.map w32) ∧ Lib.TabIs Tryz.prog W "seisin/sha.rounds" .u32 (roundKs.map w32) := by
 obtain⟨ps,⟨g1,t1,cs1,f1,p1,q1,hg1,ht1,hvar1,hd1,hrest,_⟩,_⟩:=h;obtain⟨g2,t2,cs2,f2,p2,q2,hg2,ht2,hvar2,hd2,_,_⟩:=hrest;obtain rfl:=Option.some.inj (gFirst_named.symm.trans hg1);obtain rfl:=Option.some.inj (gRounds_named.symm.trans hg2);have e1:(Tryz.prog.globals[0]?).map (·.type)=some 185:=by kernel_rfl
 have e2:(Tryz.prog.globals[1]?).map (·.type)=some 197:=by kernel_rfl
 obtain rfl:=Option.some.inj (e1.symm.trans ht1);obtain rfl:=Option.some.inj (e2.symm.trans ht2);have c1:Tryz.prog.cellsOf 175=1:=by kernel_rfl
 constructor
 ·unfold Lib.TabIs;rw[hvar1,← Lib.cells_of_tab (zs:=firstSt.toList.map w32) Tryz.underlying185 Tryz.underlying175 c1 (by kernel_rfl) hd1]
 ·unfold Lib.TabIs;rw[hvar2,← Lib.cells_of_tab (zs:=roundKs.map w32) Tryz.underlying197 Tryz.underlying175 c1 (by kernel_rfl) hd2]
theorem tabs_of{W:World}(h:laidMetH Tryz.prog shaLaid W):Tabs W:=by
 obtain⟨h1,h2⟩:=laid_two h;constructor
 ·intro j u hu;have hj:j < firstSt.toList.length:=by have:=(List.getElem?_eq_some_iff.1 hu).1;rwa [List.length_map]at this
  have:=h1.cell gFirst_named j (by rw[List.length_map];exact hj);rw[this,← hu];rw[List.getD_eq_getElem?_getD,List.getElem?_map,List.getElem?_map];rw[List.getElem?_eq_getElem hj];rfl
 ·intro j u hu;have hj:j < roundKs.length:=by have:=(List.getElem?_eq_some_iff.1 hu).1;rwa [List.length_map]at this
  have:=h2.cell gRounds_named j (by rw[List.length_map];exact hj);rw[this,← hu];rw[List.getD_eq_getElem?_getD,List.getElem?_map,List.getElem?_map];rw[List.getElem?_eq_getElem hj];rfl
def putCellsL(cs:Array Value)(o:Obj):Obj:=
 match o with
 | .cells _ t fr=>.cells cs t fr
 | o=>o
noncomputable def laidWorld (os:Os):World:=
 { World.holding Tryz.prog os ⟨#[],#[],[]⟩ with heap:=((World.holding Tryz.prog os ⟨#[],#[],[]⟩).heap.modify 0 (putCellsL (firstSt.toList.map W).toArray)).modify 1 (putCellsL (roundKs.map W).toArray) }
open Go.RowKit
theorem cells_u8:Tryz.prog.cellsOf 5=1:=by kernel_rfl
theorem cells_u64:Tryz.prog.cellsOf 25=1:=by kernel_rfl
theorem cells_id:Tryz.prog.cellsOf 46=32:=by kernel_rfl
theorem cells_int:Tryz.prog.cellsOf 3=1:=by kernel_rfl
theorem cells_point:Tryz.prog.cellsOf 69=33:=by kernel_rfl
theorem cells_su8:Tryz.prog.cellsOf 70=1:=by kernel_rfl
theorem row_point:RowT Tryz.prog 69 33:=⟨_,Tryz.underlying69,by kernel_rfl,by kernel_rfl⟩
open Ieee
def V(r:Nat):Nat:=if r < 2^52 then r else(2^52+r % 2^52)*2 ^ (r / 2^52 - 1)
def rung(x:Nat):Nat:=x % 2^63
def inf:Nat:=2047*2^52
def nanB(x:Nat):Bool:=decide (inf < rung x)
def negB(x:Nat):Bool:=decide (2^63≤x)
def sv(x:Nat):Int:=if negB x then -(V (rung x):Int) else(V (rung x):Int)
inductive RdF (x:Nat):Datum→Prop where
 | num (m:Nat) (k:Nat) (hr:rung x < inf) (hv:m*2 ^ k=V (rung x)):RdF x (.number (negB x) m (double.leastPlace+(k:Nat)))
 | inf (hr:rung x=inf):RdF x (.infinity (negB x))
 | nan (hr:inf < rung x) (t:Nat):RdF x (.nan (negB x) t)
def ltF(x y:Nat):Bool:=!(nanB x || nanB y) && decide (sv x < sv y)
def eqF(x y:Nat):Bool:=!(nanB x || nanB y) && decide (sv x=sv y)
section
variable (x y:Nat) (hx:x < 2^64) (hy:y < 2^64)
include hx hy
end
def keyF(x:Nat):Nat:=if nanB x then 0 else if 2^63≤x then 1+(2^64 - 1 - x) else 1+(x+2^63)
def cmpN(x y:Nat):Int:=if x < y then -1 else if y < x then 1 else 0
def cmpI(x y:Int):Int:=if x < y then -1 else if y < x then 1 else 0
def cmpK(x y:Nat):Int:=cmpN (keyF x) (keyF y)
def sgnF(x:Nat):Int:=if eqF x 0 then(if negB x then -1 else 1) else 0
def cmpF(x y:Nat):Int:=if nanB x then(if nanB y then 0 else -1) else if nanB y then 1 else if ltF x y then -1 else if ltF y x then 1 else 0
attribute [irreducible] V rung inf nanB negB sv ltF eqF keyF sgnF cmpF cmpK
end Go.Proofs.YtnnjjbkdjkjnpaaGreatDoor

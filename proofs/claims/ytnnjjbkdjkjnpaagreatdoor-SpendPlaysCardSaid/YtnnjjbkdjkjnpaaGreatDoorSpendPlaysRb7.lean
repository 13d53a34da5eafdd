/- The contracts of layer 3,ready for the laws: facts that last while memory grows;equality of digests. -/
import Derived.Test.YtnnjjbkdjkjnpaaGreatDoorSpendPlaysRb6
import Derived.Great.FillDense
import Derived.Laws.Tables
import Derived.Laws.IdiomCopy
set_option linter.unusedSimpArgs false
set_option linter.unusedVariables false
set_option maxRecDepth 100000
set_option maxHeartbeats 16000000
namespace Go.Proofs.YtnnjjbkdjkjnpaaGreatDoor
open Go.RowKit Go.Shelf
theorem Tabs.grow{w w':World}(h:Tabs w)(k:Grow w w'):Tabs w':=h.below k
theorem eql_ids(a b:List UInt8)(ha:a.length=32)(hb:b.length=32)(w:World):(binOp .eql 46 (.agg (a.map B).toArray) (.agg (b.map B).toArray)).run Tryz.prog w=.ok (.bool (a == b)) w:=
 run_eql_bytes w 46 5 32 Tryz.underlying46 (by kernel_rfl) (fun w=>by
  obtain⟨i,hi,hs⟩:=Option.map_eq_some_iff.1 (show(Tryz.prog.info? 5).map (·.size)=some 1 by kernel_rfl)
  simp [sizeOf,typeInfo,hi,hs]) a b ha hb
def Dig(xs:List Value)(d:List UInt8):Prop:=xs=d.map B∧d.length=32
theorem Dig.len{xs:List Value}{d:List UInt8}(h:Dig xs d):xs.length=32:=by rw[h.1,List.length_map,h.2]
theorem Dig.one{xs:List Value}{d:List UInt8}(h:Dig xs d):∀u∈xs,u.oneCell'=true:=by rw[h.1];exact all_bytes d
theorem Dig.eql{xs ys:List Value}{a b:List UInt8}(h:Dig xs a)(k:Dig ys b)(w:World):(binOp .eql 46 (.agg xs.toArray) (.agg ys.toArray)).run Tryz.prog w=.ok (.bool (a == b)) w:=by
 rw[h.1,k.1];exact eql_ids a b h.2 k.2 w
theorem Dig.neq{xs ys:List Value}{a b:List UInt8}(h:Dig xs a)(k:Dig ys b)(w:World):(binOp .neq 46 (.agg xs.toArray) (.agg ys.toArray)).run Tryz.prog w=.ok (.bool (a != b)) w:=by
 have e:=h.eql k w;unfold binOp at e ⊢;simp only [Sem.run_bind]at e ⊢;generalize (Op.equal 46 (.agg xs.toArray) (.agg ys.toArray)).run Tryz.prog w=r at *;cases r with
 | ok v w' =>
  simp only [Result.andThen_ok,Sem.run_pure,Result.ok.injEq,Value.bool.injEq]at e ⊢;obtain⟨rfl,rfl⟩:=e;exact⟨rfl,rfl⟩
 | halt x w'=>simp [Result.andThen]at e
def PartOK(w:World)(Bd:Nat)(p:Value×List UInt8):Prop:=∃A c,p.1=.slice A p.2.length c∧p.2.length≤c∧Sl w Bd 1 A p.2.length (p.2.map B)
theorem part_mk{w:World}{Bd n c:Nat}{A:Option Addr}{bs:List UInt8}(h:Sl w Bd 1 A n (bs.map B))(hc:n≤c):PartOK w Bd (.slice A n c,bs):=by
 have e:bs.length=n:=by have:=h.len;simpa using this
 refine⟨A,c,by rw[e],by rw[e];exact hc,by rw[e];exact h⟩
theorem parts_mk{w:World}{Bd n:Nat}{A:Option Addr}{ps:List (Value×List UInt8)}(h:Sl w Bd 1 A n (ps.map Prod.fst))(hp:∀p∈ps,PartOK w Bd p):Parts w Bd A n ps:=⟨h,hp⟩
theorem parts_blk{w:World}{g n:Nat}{t:TypeId}{ps:List (Value×List UInt8)}(h:Blk w g t (ps.map Prod.fst))(hn:ps.length=n)(hp:∀p∈ps,PartOK w w.heap.size p):Parts w w.heap.size (some ⟨g,0,none⟩) n ps:=
 parts_mk (h.sl (by simp [hn])) hp
theorem dsum_any (A : Option Addr) (n c : Nat) (ps : List (Value × List UInt8)) {bs : List UInt8} {xs : List Value} (hx : Dig xs (sha bs)) (hcat : cat ps = bs) (w : World) (hp : Parts w w.heap.size A n ps) (hn : n ≤ 1000000) (hl : bs.length ≤ 1099511627776) (ht : Tabs w) :
  Calls Tryz.prog 105 #[.slice A n c] w fun e w'=>e=.returned (.agg xs.toArray)∧Below w.heap.size w w':=by
 rw[hx.1,← hcat];exact sum_any A n c ps w hp hn (by rw[hcat];exact hl) ht
open Go.RowKit Go.ChangeShapes Go.WideShapes
section
variable {H:Type} {enc:TypeId×Value→H} {w:World} {r:Reach} {b0 base:Nat} {spare:Nat→Bool} {held:Bool}
end
end Go.Proofs.YtnnjjbkdjkjnpaaGreatDoor
namespace Go.Proofs.YtnnjjbkdjkjnpaaGreatDoor
open Go.RowKit Go.ChangeShapes Go.WideShapes
section
variable {H:Type} {enc:TypeId×Value→H} {w:World} {r:Reach} {b0 base:Nat} {spare:Nat→Bool} {held:Bool}
theorem i64_of{z:Int}(h:(Lit.int .i64 z).wf=true):I64 z:=bounds_i64 h
theorem u64_of{z:Int}(h:(Lit.int .u64 z).wf=true):U64 z:=by
 simp [Lit.wf,IntKind.min,IntKind.max,IntKind.signed,IntKind.bits]at h;exact⟨by omega,by omega⟩
theorem got{α:Type}{o:Option α}{xs:List α}{i:Nat}(h:o=xs[i]?)(hi:i < xs.length):∃y,o=some y:=⟨_,h.trans (List.getElem?_eq_getElem hi)⟩
theorem cut_eq{xs:List Value}{o n:Nat}{l rest:List Value}(h:(xs.drop o).take n=l)(hr:xs.drop (o+n)=rest):xs.drop o=l++rest:=by
 rw[← List.take_append_drop n (xs.drop o),h,List.drop_drop,hr]
end
end Go.Proofs.YtnnjjbkdjkjnpaaGreatDoor
namespace Go.Proofs.YtnnjjbkdjkjnpaaGreatDoor
def leB(n:Nat):List UInt8:=if h:n=0 then [] else UInt8.ofNat n::leB (n / 256)
termination_by n
decreasing_by exact Nat.div_lt_self (Nat.pos_of_ne_zero h) (by omega)
theorem leB_zero:leB 0=[]:=by rw[leB];rfl
theorem leB_pos{n:Nat}(h:n≠0):leB n=UInt8.ofNat n::leB (n / 256):=by rw[leB,dif_neg h]
def lenB(n:Nat):Nat:=(leB n).length
theorem lenB_zero:lenB 0=0:=by rw[lenB,leB_zero];rfl
theorem lenB_pos{n:Nat}(h:n≠0):lenB n=lenB (n / 256)+1:=by rw[lenB,leB_pos h];rfl
theorem lenB_le:∀(k n:Nat),n < 256 ^ k→lenB n≤k
 | 0, n, h => by obtain rfl : n = 0 := by simpa using h
                 rw[lenB_zero];omega
 | k+1,n,h=>by
  by_cases hn:n=0
  ·rw[hn,lenB_zero];omega
  ·rw[lenB_pos hn];have:=lenB_le k (n / 256) (by rw[Nat.pow_succ]at h;omega);omega
theorem lenB_64{n:Nat}(h:n≤18446744073709551615):lenB n≤8:=lenB_le 8 n (by omega)
theorem leB_at:∀(i n:Nat),i < lenB n→(leB n)[i]? = some (UInt8.ofNat (n / 256 ^ i))
 | 0,n,h=>by
  have hn:n≠0:=by rintro rfl;rw[lenB_zero]at h;omega
  rw[leB_pos hn];simp
 | i+1,n,h=>by
  have hn:n≠0:=by rintro rfl;rw[lenB_zero]at h;omega
  rw[lenB_pos hn]at h;rw[leB_pos hn,List.getElem?_cons_succ,leB_at i (n / 256) (by omega),Nat.div_div_eq_div_mul,Nat.pow_succ,Nat.mul_comm 256]
def numB(n:Nat):List UInt8:=UInt8.ofNat (lenB n)::(leB n).reverse
theorem numB_len(n:Nat):(numB n).length=lenB n+1:=by rw[numB,List.length_cons,List.length_reverse];rfl
theorem numB_le{n:Nat}(h:n≤18446744073709551615):(numB n).length≤9:=by rw[numB_len];have:=lenB_64 h;omega
theorem leB_len(n:Nat):(leB n).length=lenB n:=rfl
theorem numB_zero(n:Nat):(numB n).take 1=[UInt8.ofNat (lenB n)]:=rfl
theorem numB_at{n t:Nat}(h:t < lenB n):(numB n)[t+1]? = some (UInt8.ofNat (n / 256 ^ (lenB n - 1 - t))):=by
 unfold numB;rw[List.getElem?_cons_succ,List.getElem?_reverse (by rw[leB_len];exact h),leB_len,leB_at _ _ (by omega)]
theorem take_snoc{α:Type}{l:List α}{t:Nat}{x:α}(h:l[t]? = some x):l.take (t+1)=l.take t++[x]:=by
 rw[List.take_add_one,h];rfl
theorem numB_step{n t:Nat}(h:t < lenB n):(numB n).take (t+1+1)=(numB n).take (t+1)++[UInt8.ofNat (n / 256 ^ (lenB n - 1 - t))]:=take_snoc (numB_at h)
theorem numB_all(n:Nat):(numB n).take (lenB n+1)=numB n:=List.take_of_length_le (by rw[numB_len];exact Nat.le_refl _)
theorem b8_ofNat(n:Nat):b8 (UInt8.ofNat n)=((n % 256:Nat):Int):=by unfold b8;rw[UInt8.toNat_ofNat']
attribute [irreducible] lenB numB
def valB(l:List UInt8):Nat:=l.foldl (fun v c=>v*256+c.toNat) 0
theorem valB_nil:valB []=0:=rfl
theorem valB_snoc(l:List UInt8)(c:UInt8):valB (l++[c])=valB l*256+c.toNat:=by unfold valB;rw[List.foldl_append];rfl
theorem valB_lt:∀(n:Nat) (l:List UInt8),l.length≤n→valB l < 256 ^ n
 | 0,l,h=>by obtain rfl:l=[]:=List.eq_nil_of_length_eq_zero (by omega);simp [valB]
 | n+1,l,h=>by
  rcases List.eq_nil_or_concat l with rfl|⟨t,c,rfl⟩
  ·exact Nat.pow_pos (by omega)
  ·rw[List.concat_eq_append,valB_snoc];have h1:=valB_lt n t (by rw[List.concat_eq_append,List.length_append]at h;simp at h;omega);have h2:=c.toNat_lt;rw[Nat.pow_succ];omega
theorem valB_64{l:List UInt8}(h:l.length≤8):valB l≤18446744073709551615:=by have:=valB_lt 8 l h;omega
open Go.RowKit
def small(n:Int):Bool:=decide (n≤4611686018427387904)
theorem take_all_snoc(zs:List Int)(k:Nat)(h:k < zs.length):(zs.take (k+1)).all small=((zs.take k).all small && small (zs[k]?.getD 0)):=by
 rw[List.take_succ_eq_append_getElem h,List.all_append];simp [h]
theorem is_any (b off n cap : Nat) (zs : List Int) (w : World) (hn : n = zs.length) (hlen : zs.length ≤ 1000000)
  (hc:∀i,i < zs.length→w.cell? ⟨b,off+i,none⟩=some (.int .u64 (zs[i]?.getD 0))) :
  Calls Tryz.prog 96 #[.slice (some ⟨b,off,none⟩) n cap] w fun e w'=>e=.returned (.bool (zs.all small))∧w=w':=by
 subst hn;have HC:=kp hc;clear hc
 go_enter Tryz.func96,Tryz.ntmps96
 go_wp2
 go_loop [7] (fun i=>∃k:Nat,k≤zs.length∧i=.int .i64 k∧(zs.take k).all small=true) (fun i=>zs.length - (intOf i).toNat)
 case atStart=>exact⟨0,Nat.zero_le _,rfl,rfl⟩
 case round =>
  obtain⟨k,hk,rfl,hall⟩:=hrel;have HA:=kp hall;clear hall;by_cases hlt:k < zs.length
  ·have hcell:=HC.o k hlt;have hs:=take_all_snoc zs k hlt;generalize hz:zs[k]?.getD 0=z at *;have HS:=kp hs;clear hs;have Hz:=kp hz;clear hz;by_cases hb:4611686018427387904 < z
   ·go_wp2
    go_ret
    have:zs.all small=false:=by
     rw[List.all_eq_false];have h:=Hz.o;simp [hlt]at h;refine⟨z,by rw[← h];simp,?_⟩;simp only [small,decide_eq_true_eq];omega
    exact⟨ret_bool this.symm,rfl⟩
   ·go_wp2
    go_round
    case rel=>exact⟨k+1,by omega,by go_num,by rw[HS.o,HA.o];simp [small];omega⟩
    case measure=>simp [intOf];omega
  ·go_wp2
   go_ret
   have h:=HA.o;rw[List.take_of_length_le (by omega)]at h;exact⟨ret_bool h.symm,rfl⟩
theorem is_two (a b : Int) (w : World) :
  Calls Tryz.prog 96 #[.slice (some ⟨w.heap.size,0,none⟩) 2 2] (w.alloc (.cells #[.int .u64 a,.int .u64 b] 25)) fun e w'=>e=.returned (.bool (small a && small b))∧w.alloc (.cells #[.int .u64 a,.int .u64 b] 25)=w':=by
 refine(is_any w.heap.size 0 2 2 [a,b] _ rfl (by simp) ?_).mono ?_
 ·intro i hi
  match i,hi with
  | 0,_=>simp
  | 1,_=>simp
 ·rintro e w' ⟨rfl,rfl⟩;exact⟨by simp,rfl⟩
theorem is_one (a : Int) (w : World) (h : Nat) (hh : h = w.heap.size) :
  Calls Tryz.prog 96 #[.slice (some ⟨h,0,none⟩) 1 1] (w.alloc (.cells #[.int .u64 a] 25)) fun e w'=>e=.returned (.bool (small a))∧w.alloc (.cells #[.int .u64 a] 25)=w':=by
 subst hh;refine(is_any w.heap.size 0 1 1 [a] _ rfl (by simp) ?_).mono ?_
 ·intro i hi
  match i,hi with
  | 0,_=>simp
 ·rintro e w' ⟨rfl,rfl⟩;exact⟨by simp,rfl⟩
theorem add_ok (a b : Int) (w : World) (ha : 0 ≤ a) (hb : 0 ≤ b) (h1 : a ≤ 4611686018427387904) (h2 : b ≤ 4611686018427387904) (h3 : a + b ≤ 4611686018427387904) :
  Calls Tryz.prog 64 #[.int .u64 a,.int .u64 b] w fun e w'=>e=.returned (.tuple #[.int .u64 (a+b),.int .i64 0])∧Below w.heap.size w w':=by
 have e1:small a=true:=by simp [small];omega
 have e2:small b=true:=by simp [small];omega
 have e3:small (a+b)=true:=by simp [small];omega
 go_enter Tryz.func64,Tryz.ntmps64
 go_wp2_with fail;refine(is_two a b _).mono ?_;rintro e w1 ⟨rfl,rfl⟩;go_wp2_with fail;refine(is_one (a+b) _ _ (by simp)).mono ?_;rintro e w1 ⟨rfl,rfl⟩;go_wp2_with fail
 go_ret2
 exact⟨rfl,((Below.refl _ _).alloc (by simp) _).alloc (by simp) _⟩
theorem add_no (a b : Int) (w : World) (ha : 0 ≤ a) (hb : 0 ≤ b) (h : ¬ (a ≤ 4611686018427387904 ∧ b ≤ 4611686018427387904 ∧ a + b ≤ 4611686018427387904)) :
  Calls Tryz.prog 64 #[.int .u64 a,.int .u64 b] w fun e w'=>e=.returned (.tuple #[.int .u64 0,.int .i64 6])∧Below w.heap.size w w':=by
 by_cases hab:a≤4611686018427387904∧b≤4611686018427387904
 ·obtain⟨h1,h2⟩:=hab;have h3:¬ a+b≤4611686018427387904:=fun x=>h ⟨h1,h2,x⟩
  clear h;have e1:small a=true:=by simp [small];omega
  have e2:small b=true:=by simp [small];omega
  have e3:small (a+b)=false:=by simp [small];omega
  go_enter Tryz.func64,Tryz.ntmps64
  go_wp2_with fail;refine(is_two a b _).mono ?_;rintro e w1 ⟨rfl,rfl⟩;go_wp2_with fail;refine(is_one (a+b) _ _ (by simp)).mono ?_;rintro e w1 ⟨rfl,rfl⟩;go_wp2_with fail
  go_ret2
  exact⟨rfl,((Below.refl _ _).alloc (by simp) _).alloc (by simp) _⟩
 ·have e1 : (small a && small b) = false := by
   simp only [small,← Bool.decide_and,decide_eq_false_iff_not];exact hab
  clear h hab
  go_enter Tryz.func64,Tryz.ntmps64
  go_wp2_with fail;refine(is_two a b _).mono ?_;rintro e w1 ⟨rfl,rfl⟩;rw[e1];go_wp2_with fail
  go_ret2
  exact⟨rfl,((Below.refl _ _).alloc (by simp) _)⟩
def plusE(a b:Int):Int×Int:=if a≤4611686018427387904∧b≤4611686018427387904∧a+b≤4611686018427387904 then(a+b,0) else(0,6)
theorem add_any (a b : Int) (w : World) (ha : 0 ≤ a) (hb : 0 ≤ b) :
  Calls Tryz.prog 64 #[.int .u64 a,.int .u64 b] w fun e w'=>e=.returned (.tuple #[.int .u64 (plusE a b).1,.int .i64 (plusE a b).2])∧Below w.heap.size w w':=by
 unfold plusE;split
 ·rename_i h;exact add_ok a b w ha hb h.1 h.2.1 h.2.2
 ·rename_i h;exact add_no a b w ha hb h
theorem radd_any (a b : Int) (w : World) (ha : 0 ≤ a) (hb : 0 ≤ b) :
  Calls Tryz.prog 80 #[.int .u64 a,.int .u64 b] w fun e w'=>e=.returned (.tuple #[.int .u64 (plusE a b).1,.int .i64 (plusE a b).2])∧w=w':=by
 unfold plusE;by_cases h1:a≤4611686018427387904
 ·by_cases h2:b≤4611686018427387904
  ·by_cases h3:a+b≤4611686018427387904
   ·rw[if_pos ⟨h1,h2,h3⟩]
    go_enter Tryz.func80,Tryz.ntmps80
    go_wp2_with fail
    go_ret2
    exact⟨rfl,rfl⟩
   ·rw[if_neg (fun x=>h3 x.2.2)]
    go_enter Tryz.func80,Tryz.ntmps80
    go_wp2_with fail
    go_ret2
    exact⟨rfl,rfl⟩
  ·rw[if_neg (fun x=>h2 x.2.1)]
   go_enter Tryz.func80,Tryz.ntmps80
   go_wp2_with fail
   go_ret2
   exact⟨rfl,rfl⟩
 ·rw[if_neg (fun x=>h1 x.1)]
  go_enter Tryz.func80,Tryz.ntmps80
  go_wp2_with fail
  go_ret2
  exact⟨rfl,rfl⟩
def allE(s:Int):List Int→Int×Int
 |[]=>(s,0)
 | x::r=>if(plusE s x).2=0 then allE (plusE s x).1 r else(0,(plusE s x).2)
theorem plusE_range(a b:Int)(ha:0≤a)(hb:0≤b):0≤(plusE a b).1∧(plusE a b).1≤4611686018427387904∧((plusE a b).2=0∨(plusE a b).2=6):=by
 unfold plusE;split <;> simp <;> omega
theorem allE_drop(s:Int)(zs:List Int)(k:Nat)(h:k < zs.length):allE s (zs.drop k)=if(plusE s (zs[k]?.getD 0)).2=0 then allE (plusE s (zs[k]?.getD 0)).1 (zs.drop (k+1)) else(0,(plusE s (zs[k]?.getD 0)).2):=by
 rw[List.drop_eq_getElem_cons h,allE];simp [h]
theorem ret_pair{k1 k2:IntKind}{a b c d:Int}(h:a=c)(h':b=d):Ending.returned (.tuple #[.int k1 a,.int k2 b])=.returned (.tuple #[.int k1 c,.int k2 d]):=by rw[h,h']
theorem all_any (A : Option Addr) (n cap : Nat) (zs : List Int) (w : World) (hs : Sl w w.heap.size 1 A n (zs.map (Value.int .u64))) (hn : n ≤ 9223372036854775807) (hz : ∀ z ∈ zs, 0 ≤ z) :
  Calls Tryz.prog 73 #[.slice A n cap] w fun e w'=>e=.returned (.tuple #[.int .u64 (allE 0 zs).1,.int .i64 (allE 0 zs).2])∧Below w.heap.size w w':=by
 have hl:=hs.len;simp only [List.length_map]at hl;have HS:=kp hs;clear hs;have HZ:=kp hz;clear hz;have HL:=kp hl;clear hl
 go_enter Tryz.func73,Tryz.ntmps73
 go_wp2
 go_loopw [4,11] (fun s i wr=>∃k:Nat,∃t:Int,k≤n∧i=.int .i64 k∧s=.int .u64 t∧0≤t∧t≤4611686018427387904∧allE 0 zs=allE t (zs.drop k)∧Below w.heap.size w wr) (fun _ i _=>n - (intOf i).toNat)
 case atStart=>exact⟨0,0,Nat.zero_le _,rfl,rfl,by omega,by omega,rfl,Below.refl _ _⟩
 case round =>
  obtain⟨k,t,hk,rfl,rfl,ht0,ht1,hall,hbw⟩:=hrel;have HA:=kp hall;clear hall;have HB:=kp hbw;clear hbw;by_cases hlt:k < n
  ·obtain⟨b,off,u,rfl,hb,hu,hc⟩:=(HS.o.below HB.o).at_ hlt;have hd:=allE_drop t zs k (by have:=HL.o;omega)
   obtain⟨z,hz',rfl⟩:∃z,zs[k]? = some z∧u=.int .u64 z:=by
    rw[List.getElem?_map]at hu;obtain⟨z,h1,h2⟩:=Option.map_eq_some_iff.1 hu;exact⟨z,h1,h2.symm⟩
   have hz0:0≤z:=HZ.o z (List.mem_of_getElem? hz');rw[hz']at hd;simp only [Option.getD_some]at hd;have HD:=kp hd;clear hd;clear hu hz';have hr:=plusE_range t z ht0 hz0;by_cases h0:(plusE t z).2=0
   ·have hadd:=add_any t z wr ht0 hz0;generalize plusE t z=p at *;obtain⟨p1,p2⟩:=p;simp only at h0 hr hadd;subst h0;obtain⟨hr0,hr1,-⟩:=hr;have HADD:=kp hadd;clear hadd;go_wp2_with fail;refine HADD.o.mono ?_;rintro e w1 ⟨rfl,hb1⟩;have HB1:=kp hb1;clear hb1;go_wp2_with fail;go_roundw
    case rel=>exact⟨k+1,p1,by omega,by go_num,rfl,hr0,hr1,by rw[HA.o,HD.o];simp,HB.o.trans (HB1.o.mono HB.o.size)⟩
    case measure=>simp [intOf];omega
   ·have hadd:=add_any t z wr ht0 hz0;generalize plusE t z=p at *;obtain⟨p1,p2⟩:=p;simp only at h0 hr hadd;have h6:p2=6:=by omega
    subst h6;have HADD:=kp hadd;clear hadd;clear hr h0;go_wp2_with fail;refine HADD.o.mono ?_;rintro e w1 ⟨rfl,hb1⟩;have HB1:=kp hb1;clear hb1;go_wp2_with fail
    go_ret2
    have hfin:allE 0 zs=(0,6):=by rw[HA.o,HD.o,if_neg (by omega)]
    exact⟨ret_pair (by rw[hfin]) (by rw[hfin]),HB.o.trans (HB1.o.mono HB.o.size)⟩
  ·go_wp2_with fail
   go_ret2
   have hfin:allE 0 zs=(t,0):=by rw[HA.o,List.drop_eq_nil_of_le (by have:=HL.o;omega)];rfl
   exact⟨ret_pair (by rw[hfin]) (by rw[hfin]),HB.o⟩
theorem rall_any (A : Option Addr) (n cap : Nat) (zs : List Int) (w : World) (hs : Sl w w.heap.size 1 A n (zs.map (Value.int .u64))) (hn : n ≤ 9223372036854775807) (hz : ∀ z ∈ zs, 0 ≤ z) :
  Calls Tryz.prog 45 #[.slice A n cap] w fun e w'=>e=.returned (.tuple #[.int .u64 (allE 0 zs).1,.int .i64 (allE 0 zs).2])∧Below w.heap.size w w':=by
 have hl:=hs.len;simp only [List.length_map]at hl;have HS:=kp hs;clear hs;have HZ:=kp hz;clear hz;have HL:=kp hl;clear hl
 go_enter Tryz.func45,Tryz.ntmps45
 go_wp2
 go_loopw [4,5] (fun s i wr=>∃k:Nat,∃t:Int,k≤n∧i=.int .i64 k∧s=.int .u64 t∧0≤t∧t≤4611686018427387904∧allE 0 zs=allE t (zs.drop k)∧wr=w) (fun _ i _=>n - (intOf i).toNat)
 case atStart=>exact⟨0,0,Nat.zero_le _,rfl,rfl,by omega,by omega,rfl,rfl⟩
 case round =>
  obtain⟨k,t,hk,rfl,rfl,ht0,ht1,hall,rfl⟩:=hrel;have HA:=kp hall;clear hall;by_cases hlt:k < n
  ·obtain⟨b,off,u,rfl,hb,hu,hc⟩:=HS.o.at_ hlt;have hd:=allE_drop t zs k (by have:=HL.o;omega)
   obtain⟨z,hz',rfl⟩:∃z,zs[k]? = some z∧u=.int .u64 z:=by
    rw[List.getElem?_map]at hu;obtain⟨z,h1,h2⟩:=Option.map_eq_some_iff.1 hu;exact⟨z,h1,h2.symm⟩
   have hz0:0≤z:=HZ.o z (List.mem_of_getElem? hz');rw[hz']at hd;simp only [Option.getD_some]at hd;have HD:=kp hd;clear hd;clear hu hz';have hr:=plusE_range t z ht0 hz0;by_cases h0:(plusE t z).2=0
   ·have hadd:=radd_any t z wr ht0 hz0;generalize plusE t z=p at *;obtain⟨p1,p2⟩:=p;simp only at h0 hr hadd;subst h0;obtain⟨hr0,hr1,-⟩:=hr;have HADD:=kp hadd;clear hadd;go_wp2_with fail;refine HADD.o.mono ?_;rintro e w1 ⟨rfl,rfl⟩;go_wp2_with fail;go_roundw
    case rel=>exact⟨k+1,p1,by omega,by go_num,rfl,hr0,hr1,by rw[HA.o,HD.o];simp,trivial⟩
    case measure=>simp [intOf];omega
   ·have hadd:=radd_any t z wr ht0 hz0;generalize plusE t z=p at *;obtain⟨p1,p2⟩:=p;simp only at h0 hr hadd;have h6:p2=6:=by omega
    subst h6;have HADD:=kp hadd;clear hadd;clear hr h0;go_wp2_with fail;refine HADD.o.mono ?_;rintro e w1 ⟨rfl,rfl⟩;go_wp2_with fail
    go_ret2
    have hfin:allE 0 zs=(0,6):=by rw[HA.o,HD.o,if_neg (by omega)]
    exact⟨ret_pair (by rw[hfin]) (by rw[hfin]),Below.refl _ _⟩
  ·go_wp2_with fail
   go_ret2
   have hfin:allE 0 zs=(t,0):=by rw[HA.o,List.drop_eq_nil_of_le (by have:=HL.o;omega)];rfl
   exact⟨ret_pair (by rw[hfin]) (by rw[hfin]),Below.refl _ _⟩
theorem info_us:(Tryz.prog.info? 25).map (fun i=>(i.zero,i.size,i.bytes))=some (some (.int .u64 0),1,8):=by kernel_rfl
theorem el_us:ElemT Tryz.prog 103 25 1 8:=elemT Tryz.underlying103 info_us rfl (by omega)
theorem fill_nil{place:Nat→Option (Nat×Nat)}{cells:List Value}:Instr.fill place cells.toArray []=some cells.toArray:=rfl
theorem splice_get{α:Type}(L cs:List α)(off k:Nat)(h:off+cs.length≤L.length):(splice L off cs)[k]? = if off≤k∧k < off+cs.length then cs[k - off]? else L[k]?:=by
 unfold splice;have hl:(L.take off).length=off:=by rw[List.length_take];omega
 by_cases h1:k < off
 ·rw[if_neg (by omega),List.getElem?_append_left (by omega),List.getElem?_take,if_pos h1]
 ·rw[List.getElem?_append_right (by omega),hl];by_cases h2:k - off < cs.length
  ·rw[if_pos (by omega),List.getElem?_append_left h2]
  ·rw[if_neg (by omega),List.getElem?_append_right (by omega),List.getElem?_drop]
   congr 1;omega
theorem fill_cons {place : Nat → Option (Nat × Nat)} {cells cs : List Value} {i off s : Nat} {v : Value} {rest : List (Nat × Value)} (hp : place i = some (off, s)) (hv : v.cells = cs.toArray) (hs : cs.length = s) (hle : off + s ≤ cells.length) :
  Instr.fill place cells.toArray ((i,v)::rest)=Instr.fill place (splice cells off cs).toArray rest:=by
 conv=>lhs;unfold Instr.fill
 simp only [hp];have hsz:v.cells.size=s:=by rw[hv];simpa using hs
 rw[if_neg (by simp [hsz];omega)]
 congr 1
 obtain⟨h1,h2⟩:=Great.foldl_set off cs 0 cells.toArray
 have e:(v.cells.zipIdx.foldl (fun cs (x:Value×Nat)=>cs.setIfInBounds (off+x.2) x.1) cells.toArray)=((cs.zipIdx 0).foldl (fun cs (x:Value×Nat)=>cs.setIfInBounds (off+x.2) x.1) cells.toArray):=by
  rw[hv,← Array.foldl_toList,Array.toList_zipIdx]
 refine Eq.trans e ?_
 apply Array.ext_getElem?
 intro k;rw[h2 k];simp only [Nat.add_zero,List.size_toArray,List.getElem?_toArray];rw[splice_get _ _ _ _ (by omega)];by_cases hk:off≤k∧k < off+cs.length
 ·rw[if_pos ⟨hk.1,hk.2,by omega⟩,if_pos hk]
 ·rw[if_neg (fun h=>hk ⟨h.1,h.2.1⟩),if_neg hk]
theorem splice_mid{α:Type}{pre old post new:List α}{off:Nat}(h1:pre.length=off)(h2:old.length=new.length):splice (pre++(old++post)) off new=pre++(new++post):=by
 unfold splice;rw[← h1,List.take_left,← h2,← List.drop_drop,List.drop_left,List.drop_left]
section
variable {P:Program} {ops:Array Oper} {rest:List Oper} {o:Oper} {a:Act} {w:World} {Q:Exit→Act→World→Prop}
theorem exec_build {ev : Operand → Value} {t : TypeId} {parts : Array (Nat × Operand)} {cells : List Value} (ho : o.op = .build t parts) (h : P.built t (parts.toList.map fun (i, x) => (i, ev x)) = some cells.toArray) (w : World) :
  (execOp ev o).run P w=.ok (.value (.agg cells.toArray)) w:=by
 unfold execOp;simp only [ho,Sem.run_bind,run_build w t (parts.map fun(i,x)=>(i,ev x)) _ (by rw[Array.toList_map];exact h),Result.andThen_ok]
 rfl
theorem wpl_build (hgd : o.guard = none) {t : TypeId} {parts : Array (Nat × Operand)} (ho : o.op = .build t parts) {cells : List Value} (h : P.built t (parts.toList.map fun (i, x) => (i, a.eval x)) = some cells.toArray)
  (hk:wpList P ops Q rest (a.put o.dst (.agg cells.toArray)) w):wpList P ops Q (o::rest) a w:=by
 refine wpList_plain hgd fun K hK=>?_
 unfold Oper.wp;rw[exec_build ho h w];exact hK _ _ hk
end
end Go.Proofs.YtnnjjbkdjkjnpaaGreatDoor
namespace Go.Proofs.YtnnjjbkdjkjnpaaGreatDoor
open Go.RowKit
theorem wanted_none{o:Oper}{y:Nat→Option Bool}(h:o.guard=none):Region.wanted o y=true:=by unfold Region.wanted;rw[h]
def At(w:World)(g:Nat)(T:TypeId)(n:Nat)(xs:List Value):Prop:=Blk w g T xs∧xs.length=n
theorem at_mk{w:World}{g:Nat}{T:TypeId}{n:Nat}{xs:List Value}(h:Blk w g T xs)(hn:xs.length=n):At w g T n xs:=⟨h,hn⟩
theorem At.blk{w:World}{g:Nat}{T:TypeId}{n:Nat}{xs:List Value}(h:At w g T n xs):Blk w g T xs:=h.1
theorem At.len{w:World}{g:Nat}{T:TypeId}{n:Nat}{xs:List Value}(h:At w g T n xs):xs.length=n:=h.2
theorem At.grow{w w':World}{g:Nat}{T:TypeId}{n:Nat}{xs:List Value}(h:At w g T n xs)(k:Grow w w'):At w' g T n xs:=⟨h.1.grow k,h.2⟩
theorem At.sl{w:World}{g:Nat}{T:TypeId}{n:Nat}{xs:List Value}(h:At w g T n xs):Sl w w.heap.size 1 (some ⟨g,0,none⟩) n xs:=h.1.sl (by rw[h.2];omega)
theorem At.lt{w:World}{g:Nat}{T:TypeId}{n:Nat}{xs:List Value}(h:At w g T n xs):g < w.heap.size:=h.1.lt
theorem At.off{w w':World}{g g2:Nat}{T:TypeId}{n:Nat}{xs:List Value}(h:At w g T n xs)(k:w.grownBy w' (some g2))(hne:g≠g2):At w' g T n xs:=⟨h.1.grown k (by simpa using hne),h.2⟩
theorem var_grow{w w1 w2:World}(h1:Below w.heap.size w w1)(hz:w1.heap.size=w.heap.size+1)(hg:w1.grownBy w2 (some w.heap.size)):Grow w w2:=
 h1.grown hg (by omega) (by intro g hg;cases hg;exact Nat.le_refl _)
theorem put_below{w0 w w2:World}{g:Nat}(h:Below w0.heap.size w0 w)(hg:w0.heap.size≤g)(k:w.grownBy w2 (some g)):Below w0.heap.size w0 w2:=
 h.grown k h.size (by intro q hq;cases hq;exact hg)
def Cl(n:Nat)(xs:List Value):Prop:=xs.length=n∧∀u∈xs,u.oneCell'=true
theorem Cl.len{n:Nat}{xs:List Value}(h:Cl n xs):xs.length=n:=h.1
theorem Cl.one{n:Nat}{xs:List Value}(h:Cl n xs):∀u∈xs,u.oneCell'=true:=h.2
section
variable {P:Program} {ops:Array Oper} {rest:List Oper} {o:Oper} {a:Act} {w:World} {Q:Exit→Act→World→Prop}
theorem wpl_store1 (hgd : o.guard = none) {T : TypeId} {x y : Operand} (ho : o.op = .store T x y) {g i : Nat} {t : TypeId} {cs : List Value} {v : Value} (hb : Blk w g t cs) (hx : a.eval x = .pointer (some ⟨g, i, none⟩)) (hy : a.eval y = v)
  (hT:(P.info? T).map (·.size)=some 1) (hv:v.cells=#[v]) (h1:v.oneCell'=true) (hi:i < cs.length)
  (h:∀w',Blk w' g t (cs.set i v)→w.grownBy w' (some g)→w'.heap.size=w.heap.size→wpList P ops Q rest (a.put o.dst undef) w'):wpList P ops Q (o::rest) a w:=by
 refine wpList_plain hgd fun K hK=>?_
 have hc:=hb.at_ (List.getElem?_eq_getElem hi);have hf:=hb.frozen i
 have hrun:(Instr.storeAt T (.pointer (some ⟨g,i,none⟩)) v).run P w=.ok () (w.setCell ⟨g,i,none⟩ v):=by
  obtain⟨inf,hi2,hs⟩:=Option.map_eq_some_iff.1 hT;have e0:Addr.add ⟨g,i,none⟩ 0=⟨g,i,none⟩:=by rw[Addr.add_lit];rfl
  have e1:(store ⟨g,i,none⟩ v).run P w=.ok () (w.setCell ⟨g,i,none⟩ v):=by rw[run_store _ _ _ _ _ h1];simp [stored,hc,hf]
  simp [Instr.storeAt,Instr.sureAddr,storeVar,sizeOf,typeInfo,hi2,hs,hv,storeCells,e0,e1]
 unfold Oper.wp execOp;simp only [ho,hx,hy,Sem.run_bind,hrun,Result.andThen_ok,Sem.run_pure];exact hK _ _ (h _ (hb.set_ i v) (grown_set w g i v) (by simp))
end
theorem run_row1 {P : Program} {w : World} {t e : TypeId} {sz bytes : Nat} (HE : ElemT P t e sz bytes) {ys : List Value} (hl : ys.length = sz) (h24 : sz ≤ 16777216) :
  (Instr.buildSlice t 1 #[(0,.agg ys.toArray)]).run P w=.ok (.slice (some ⟨w.heap.size,0,none⟩) 1 1) (w.alloc (.cells ys.toArray e)):=by
 obtain⟨i,z,hi,hz,hsz,hby,hzs,h0⟩:=HE.hi;have h1:¬ (16777216 < i.size):=by omega
 have h2:¬ (i.size=0):=by omega
 have hf:Instr.fill (fun k=>some (k*i.size,i.size)) ((Array.range i.size).map fun k=>z.cells[k % z.cells.size]!) [(0,.agg ys.toArray)]=some ys.toArray:=by
  obtain⟨cs,hcs⟩:∃cs:List Value,cs=((Array.range i.size).map fun k=>z.cells[k % z.cells.size]!).toList:=⟨_,rfl⟩;have e1:((Array.range i.size).map fun k=>z.cells[k % z.cells.size]!)=cs.toArray:=by rw[hcs]
  have hcl:cs.length=i.size:=by rw[hcs];simp
  rw[e1,fill_cons (off:=0) (s:=i.size) (cs:=ys) (by simp) rfl (by omega) (by omega),fill_nil]
  congr 2
  unfold splice;rw[List.drop_of_length_le (by omega)];simp
 simp [Instr.buildSlice,run_underlying HE.ht,sizeOf,typeInfo,zeroValue,hi,hz,h1,h2,hf,newRow]
theorem wpl_row1 {P : Program} {w : World} {ops : Array Oper} {rest : List Oper} {o : Oper} {a : Act} {Q : Exit → Act → World → Prop} (hgd : o.guard = none) {t : TypeId} {x : Operand} (ho : o.op = .buildSlice t 1 #[(0, x)]) {e : TypeId} {sz bytes : Nat} (HE : ElemT P t e sz bytes) {ys : List Value}
  (hx:a.eval x=.agg ys.toArray) (hl:ys.length=sz) (h24:sz≤16777216)
  (h:∀w',Blk w' w.heap.size e ys→Grow w w'→w'.heap.size=w.heap.size+1→wpList P ops Q rest (a.put o.dst (.slice (some ⟨w.heap.size,0,none⟩) 1 1)) w'):wpList P ops Q (o::rest) a w:=by
 refine wpList_plain hgd fun K hK=>?_
 have hr:=run_row1 (P:=P) (w:=w) HE hl h24;obtain⟨n1,n2,n3⟩:=alloc_new w ys.toArray e;unfold Oper.wp execOp;simp only [ho,List.map_toArray,List.map_cons,List.map_nil,hx,Sem.run_bind,hr,Result.andThen_ok,Sem.run_pure];exact hK _ _ (h _ n1 n2 n3)
theorem wpl_loadmw {P : Program} {ops : Array Oper} {rest : List Oper} {o : Oper} {a : Act} {w : World} {Q : Exit → Act → World → Prop} (hw : Region.wanted o (yielded ops a.tmps) = true) {T : TypeId} {x : Operand} (ho : o.op = .load T x) {n : Nat} (hT : RowT P T n) {b off : Nat} {cs : List Value} (hc : ∀ j u, cs[j]? = some u → w.cell? ⟨b, off + j, none⟩ = some u) (hx : a.eval x = .pointer (some ⟨b, off, none⟩)) (hn : cs.length = n)
  (h:wpList P ops Q rest (a.put o.dst (.agg cs.toArray)) w):wpList P ops Q (o::rest) a w:=by
 refine wpl_wanted hw fun K hK=>?_
 obtain⟨d,hu,hd,hi⟩:=hT;have hrun:=run_loadVar_mid (P:=P) w b off T cs d hc hu (by cases d <;> simp_all) (by rw[hi,hn]);unfold Oper.wp execOp;simp only [ho,hx,Instr.loadAt,Instr.sureAddr,Sem.run_bind,Sem.run_pure,Result.andThen_ok,hrun];exact hK _ _ h
theorem wlw{P:Program}{ops:Array Oper}{rest:List Oper}{a:Act}{w:World}{Q:Exit→Act→World→Prop}{ty:TypeId}{ps:String}{af:Array Edge}{gd:Option (Nat×Bool)}(s:Nat){T:TypeId}{x:Operand}{n:Nat}(hT:RowT P T n){b off:Nat}{cs:List Value}(hc:∀j u,cs[j]? = some u→w.cell? ⟨b,off+j,none⟩=some u)(hn:cs.length=n)(h:wpList P ops Q rest (a.put (some s) (.agg cs.toArray)) w)(hw:Region.wanted ⟨some s,.load T x,ty,ps,af,gd⟩ (yielded ops a.tmps)=true:=by first|rfl|(go_simp;done)|fail)(hx:a.eval x=.pointer (some ⟨b,off,none⟩):=by with_unfolding_all exact rfl):wpList P ops Q (⟨some s,.load T x,ty,ps,af,gd⟩::rest) a w:=wpl_loadmw hw rfl hT hc hx hn h
def MidAt(w:World)(b off:Nat)(cs:List Value):Prop:=∀j u,cs[j]? = some u→w.cell? ⟨b,off+j,none⟩=some u
end Go.Proofs.YtnnjjbkdjkjnpaaGreatDoor
namespace Go.Proofs.YtnnjjbkdjkjnpaaGreatDoor
open Go.RowKit Go.Shelf
theorem len_id{v:Value}:(List.replicate 32 v).length=32:=by simp
theorem app_below{w0 w w2:World}{A:Option Addr}{e:TypeId}{sz n c:Nat}{xs:List Value}(h:Below w0.heap.size w0 w)(ho:w.ownsRow w0.heap.size e sz (.slice A n c) n xs)(k:w.grownBy w2 (A.map Addr.block)):Below w0.heap.size w0 w2:=
 below_grown h k h.size (own_from ho)
theorem Dig.at_{xs:List Value}{d:List UInt8}(h:Dig xs d){k:Nat}(hk:k < 32):∃x:UInt8,xs[k]? = some (.int .u8 (b8 x))∧d[k]? = some x:=by
 have hl:=h.2;refine⟨d[k]'(by omega),?_,List.getElem?_eq_getElem (by omega)⟩;rw[h.1,List.getElem?_map,List.getElem?_eq_getElem (by omega)];rfl
theorem tbytes_any {xs : List Value} {d : List UInt8} (hx : Dig xs d) (w : World) :
  Calls Tryz.prog 86 #[.agg xs.toArray] w fun e w'=>∃A' c',e=.returned (.slice A' 32 c')∧Sl w' w'.heap.size 1 A' 32 (d.map B)∧32≤c'∧Below w.heap.size w w':=by
 have HD:=kp hx;have HB:=kp (Below.refl w.heap.size w);clear hx
 go_enter Tryz.func86,Tryz.ntmps86
 go_wp2_with (with_reducible first|refine wpl_box (o:=⟨some 1,_,_,_,_,_⟩) rfl rfl rfl ?_);intro v_ b_ y_ s_;have HX_:=kp (at_mk b_ HD.o.len);clear b_ s_;replace HB:=kp (HB.o.grow' y_);have HX:=HX_;clear y_ HX_;try clear w_
 rename World=>w_;go_wp2_with fail;go_loopw [3,4] (fun v i wr=>∃k:Nat,∃A' c',k≤32∧i=.int .i64 k∧v=.slice A' k c'∧Hid (wr.ownsRow (w.heap.size+1) 5 1 (.slice A' k c') k (xs.take k))∧Hid (Below w.heap.size w wr)∧Hid (At wr w.heap.size 46 32 xs)) (fun _ i _=>32 - (intOf i).toNat)
 case atStart=>exact⟨0,none,0,by omega,rfl,rfl,kp (by simpa using World.ownsRow_nil _ _ _ _),HB,HX⟩
 case round =>
  obtain⟨k,A3,c3,hk,rfl,rfl,hown,hbw,hat⟩:=hrel;clear HB HX;by_cases hlt:k < 32
  ·obtain⟨x,hx,_⟩:=HD.o.at_ hlt;have hc:=hat.o.blk.at_ hx;have HXK:=kp hx;clear hx;go_wp2_with (at_builtin;refine wpl_app1 rfl rfl el_u8 hown.o rfl (m:=1) rfl rfl ?_ ?_ ?_ ?_ ?_)
   ·rfl
   ·omega
   ·omega
   ·have:=hat.o.lt;omega
   ·intro A4 c4 w4 ho hg hA;have HO:=kq (w4.ownsRow (w.heap.size+1) 5 1 (.slice A4 (k+1) c4) (k+1) (xs.take (k+1))) (by rw[List.take_add_one,HXK.o];exact ho);have HB:=kq (Below w.heap.size w w4) (hbw.o.grown hg hbw.o.size (fun g hg=>by have:=own_from hown.o g hg;omega));have HX:=kp (at_mk (hat.o.blk.grown hg (by intro hh;have:=own_from hown.o _ hh.symm;omega)) hat.o.len);clear ho hg hA hc;go_wp2_with fail;go_roundw
    case rel=>exact⟨k+1,A4,c4,by omega,by go_num,rfl,HO,HB,HX⟩
    case measure=>simp [intOf];omega
  ·obtain rfl:k=32:=by omega
   have e:xs.take 32=d.map B:=by rw[List.take_of_length_le (by rw[HD.o.len];exact Nat.le_refl _),HD.o.1]
   have HO:=kp (e▸hown.o);clear e;have HC:=kp (own_form hown.o (by omega));go_wp2_with fail;go_ret
   exact⟨A3,c3,rfl,Sl.of_own HO.o,(by obtain⟨g,_,_,_,h⟩:=HC.o;exact h),hbw.o⟩
def longB(bs:List UInt8):List UInt8:=beBytes bs.length 4++bs
def underB(m:UInt8)(ls:List (List UInt8)):List UInt8:=m::ls.flatMap longB
theorem underB_snoc(m:UInt8)(ls:List (List UInt8))(x:List UInt8):underB m (ls++[x])=underB m ls++(beBytes x.length 4++x):=by
 unfold underB;rw[List.flatMap_append];simp [longB]
theorem beBytes_len(v n:Nat):(beBytes v n).length=n:=by unfold beBytes;simp
theorem underB_le(m:UInt8)(ls:List (List UInt8))(N:Nat)(h:∀l∈ls,l.length≤N):(underB m ls).length≤1+ls.length*(4+N):=by
 unfold underB
 induction ls with
 | nil=>simp
 | cons x xs ih =>
  have h1:=h x (by simp);have h2:=ih fun l hl=>h l (by simp [hl])
  simp only [List.flatMap_cons,List.length_cons,List.length_append,longB,beBytes_len,Nat.succ_mul]at *;omega
theorem info_su8:(Tryz.prog.info? 70).map (fun i=>(i.zero,i.size,i.bytes))=some (some (.slice none 0 0),1,24):=by kernel_rfl
theorem el_su8:ElemT Tryz.prog 168 70 1 24:=elemT Tryz.underlying168 info_su8 rfl (by omega)
def PartIn(w:World)(row:Option Nat)(p:Value×List UInt8):Prop:=∃A c,p.1=.slice A p.2.length c∧p.2.length≤c∧Sl w w.heap.size 1 A p.2.length (p.2.map B)∧(0 < p.2.length→A.map Addr.block≠row)
theorem PartIn.grow{w w2:World}{row:Option Nat}{p:Value×List UInt8}(h:PartIn w row p)(k:Grow w w2):PartIn w2 row p:=by
 obtain⟨A,c,h1,h2,h3,h4⟩:=h;exact⟨A,c,h1,h2,h3.grow k,h4⟩
theorem PartIn.step{w w2:World}{row row':Option Nat}{p:Value×List UInt8}(h:PartIn w row p)(hg:w.grownBy w2 row)(hA:row'=row∨∃j,row'=some (w.heap.size+j)):PartIn w2 row' p:=by
 obtain⟨A,c,h1,h2,h3,h4⟩:=h;refine⟨A,c,h1,h2,⟨h3.1,fun hn=>?_⟩,fun hn=>?_⟩
 ·obtain⟨b,off,e,hb,hc⟩:=h3.2 hn;refine⟨b,off,e,Nat.lt_of_lt_of_le hb hg.size,fun j u hu=>hg.cell (hc j u hu) ?_⟩;have:=h4 hn;rw[e]at this;exact this
 ·obtain⟨b,off,e,hb,hc⟩:=h3.2 hn;rcases hA with hA|⟨j,hA⟩
  ·rw[hA];exact h4 hn
  ·rw[hA,e];intro hh;simp only [Option.map_some,Option.some.injEq]at hh;omega
theorem PartIn.ok{w:World}{row:Option Nat}{p:Value×List UInt8}(h:PartIn w row p):PartOK w w.heap.size p:=by
 obtain⟨A,c,h1,h2,h3,h4⟩:=h;exact⟨A,c,h1,h2,h3⟩
theorem PartIn.of{w:World}{row:Option Nat}{Bd:Nat}{p:Value×List UInt8}(h:PartOK w Bd p)(hB:Bd≤w.heap.size)(hr:∀g,row=some g→Bd≤g):PartIn w row p:=by
 obtain⟨A,c,h1,h2,h3⟩:=h;refine⟨A,c,h1,h2,h3.more hB,fun hn hh=>?_⟩;obtain⟨b,off,e,hb,_⟩:=h3.2 hn;rw[e]at hh;have:=hr b hh.symm;omega
theorem PartIn.own{w:World}{row:Option Nat}{base n c:Nat}{A:Option Addr}{bs:List UInt8}(h:w.ownsRow base 5 1 (.slice A n c) n (bs.map B))(hc:n≤c)(hr:∀g,row=some g→g < base):PartIn w row (.slice A n c,bs):=by
 have e:bs.length=n:=by have:=h.1;simpa using this
 refine⟨A,c,by rw[e],by rw[e];exact hc,by rw[e];exact Sl.of_own h,fun _ hh=>?_⟩;have:=own_from h;rcases A with _|a
 ·simp only [Option.map_none]at hh;have h0:=(Sl.of_own h).2;rename_i hpos;obtain⟨b,off,e2,_⟩:=h0 (by simp only at hpos;omega);cases e2
 ·have h1:=this a.block rfl;have h2:=hr a.block hh.symm;omega
def UInv(w wr:World)(A:Option Addr)(c k:Nat)(qs ps:List (Value×List UInt8))(m:UInt8):Prop:=
 wr.ownsRow (w.heap.size+1) 70 1 (.slice A (2*k+1) c) (2*k+1) (qs.map Prod.fst)∧(∀q∈qs,PartIn wr (A.map Addr.block) q)∧cat qs=underB m ((ps.take k).map Prod.snd)∧Below w.heap.size w wr∧At wr w.heap.size 46 32 (List.replicate 32 (B 0))
theorem u_step {w wr w2 w4 : World} {A A4 : Option Addr} {c c4 k g4 : Nat} {qs ps : List (Value × List UInt8)} {m : UInt8} {p : Value × List UInt8} (h : UInv w wr A c k qs ps m) (hp : PartOK wr w.heap.size p) (hk : ps[k]? = some p)
  (hb2:Below wr.heap.size wr w2) (ho4:w2.ownsRow wr.heap.size 5 1 (.slice (some ⟨g4,0,none⟩) 4 4) 4 ((beBytes p.2.length 4).map B))
  (ho:w4.ownsRow (w.heap.size+1) 70 1 (.slice A4 (2*k+1+2) c4) (2*k+1+2) (qs.map Prod.fst++[.slice (some ⟨g4,0,none⟩) 4 4,p.1]))
  (hg:w2.grownBy w4 (A.map Addr.block)) (hA:A4.map Addr.block=A.map Addr.block∨A4.map Addr.block=some (w2.heap.size+1)) :
  UInv w w4 A4 c4 (k+1) (qs++[(.slice (some ⟨g4,0,none⟩) 4 4,beBytes p.2.length 4),p]) ps m:=by
 obtain⟨h1,h2,h3,h4,h5⟩:=h;have hA':A4.map Addr.block=A.map Addr.block∨∃j,A4.map Addr.block=some (w2.heap.size+j):=hA.imp_right fun e=>⟨1,e⟩
 have hfrom:=own_from h1;have hlt:∀g,A.map Addr.block=some g→g < wr.heap.size:=fun g hg=>(h1.lt g (by cases A <;> simp_all [Value.ownBlock])).2
 have e:2*(k+1)+1=2*k+1+2:=by omega
 refine⟨?_,?_,?_,?_,?_⟩
 ·rw[e,List.map_append];exact ho
 ·intro q hq;simp only [List.mem_append,List.mem_cons,List.not_mem_nil,or_false]at hq;rcases hq with hq|rfl|rfl
  ·exact((h2 q hq).grow hb2).step hg hA'
  ·exact(PartIn.own ho4 (Nat.le_refl _) hlt).step hg hA'
  ·exact((PartIn.of hp h4.size (fun g hg=>by have:=hfrom g hg;omega)).grow hb2).step hg hA'
 ·have e2:cat (qs++[(.slice (some ⟨g4,0,none⟩) 4 4,beBytes p.2.length 4),p])=cat qs++(beBytes p.2.length 4++p.2):=by unfold cat;simp
  rw[e2,h3,List.take_add_one,hk,Option.toList_some,List.map_append,List.map_cons,List.map_nil,underB_snoc]
 ·exact(h4.trans (hb2.mono h4.size)).grown hg (Nat.le_trans h4.size hb2.size) fun g hg=>by have:=hfrom g hg;omega
 ·refine⟨(h5.1.grow hb2).grown hg fun hh=>?_,h5.2⟩;have:=hfrom _ hh.symm;omega
theorem u_end{w wr:World}{A:Option Addr}{c n:Nat}{qs ps:List (Value×List UInt8)}{m:UInt8}(h:UInv w wr A c n qs ps m)(hn:ps.length=n):Parts wr wr.heap.size A (2*n+1) qs∧cat qs=underB m (ps.map Prod.snd):=by
 obtain⟨h1,h2,h3,_,_⟩:=h;refine⟨parts_mk (Sl.of_own h1) fun q hq=>(h2 q hq).ok,?_⟩;rw[h3,List.take_of_length_le (by omega)]
theorem u_start {w w1 : World} {m : UInt8} {ps : List (Value × List UInt8)} (h : Below w.heap.size w w1) (hz : w.heap.size + 1 ≤ w1.heap.size) (hr : At w1 w.heap.size 46 32 (List.replicate 32 (B 0))) :
  UInv w ((w1.alloc (.cells #[B m] 5)).alloc (.cells #[.slice (some ⟨w1.heap.size,0,none⟩) 1 1] 70)) (some ⟨w1.heap.size+1,0,none⟩) 1 0 [(.slice (some ⟨w1.heap.size,0,none⟩) 1 1,[m])] ps m:=by
 have h1:=alloc_new w1 #[B m] 5;have h2:=alloc_new (w1.alloc (.cells #[B m] 5)) #[.slice (some ⟨w1.heap.size,0,none⟩) 1 1] 70;refine⟨?_,?_,?_,?_,?_⟩
 ·have:=World.ownsRow_lit (base:=w.heap.size+1) (e:=70) (size:=1) (w1.alloc (.cells #[B m] 5)) #[.slice (some ⟨w1.heap.size,0,none⟩) 1 1] 1 (by rw[h1.2.2];omega) (by simp [maxLen]) rfl;rw[h1.2.2]at this;exact this
 ·intro q hq;simp only [List.mem_cons,List.not_mem_nil,or_false]at hq;subst hq;refine PartIn.grow ⟨_,_,rfl,Nat.le_refl _,h1.1.sl rfl,fun _ hh=>?_⟩ h2.2.1;simp only [Option.map_some,Option.some.injEq]at hh;omega
 ·unfold cat;simp [underB]
 ·exact h.grow' (Grow.trans _ _ _ h1.2.1 h2.2.1)
 ·exact hr.grow (Grow.trans _ _ _ h1.2.1 h2.2.1)
attribute [irreducible] underB longB
theorem under_any (m : UInt8) (A : Option Addr) (n c : Nat) (ps : List (Value × List UInt8)) {xs : List Value} (hx : Dig xs (sha (underB m (ps.map Prod.snd)))) (w : World) (hp : Parts w w.heap.size A n ps) (hn : n ≤ 400000) (hl : ∀ p ∈ ps, p.2.length ≤ 1000000) (ht : Tabs w) :
  Calls Tryz.prog 76 #[B m,.slice A n c] w fun e w'=>e=.returned (.agg xs.toArray)∧Below w.heap.size w w':=by
 have HT:=kp ht;have HP:=kp hp;have HD:=kp hx;have HL:=kp hl;have HB:=kp (Below.refl w.heap.size w);have HN:=kp hp.len;clear hp ht hx hl;show Calls Tryz.prog 76 #[.int .u8 (b8 m),.slice A n c] w _
 go_enter Tryz.func76,Tryz.ntmps76
 go_wp2_with (with_reducible first|refine wpl_alloc (o:=⟨some 4,_,_,_,_,_⟩) rfl rfl zero_id ?_);intro v_ b_ y_ s_;have HX_:=kp (at_mk b_ len_id);clear b_ s_;replace HB:=kp (HB.o.grow' y_);have HR:=HX_;clear y_ HX_;try clear w_
 rename World=>w_;have HS:=kp (u_start (m:=m) (ps:=ps) HB.o (by have:=HR.o.lt;omega) HR.o);go_wp2_with fail;go_loopw [5,13] (fun v i wr=>∃k:Nat,∃A' c' qs,k≤n∧i=.int .i64 k∧v=.slice A' (2*k+1) c'∧Hid (UInv w wr A' c' k qs ps m)) (fun _ i _=>n - (intOf i).toNat)
 case atStart=>exact⟨0,_,_,_,by omega,rfl,rfl,HS⟩
 case round =>
  obtain⟨k,A3,c3,qs,hk,rfl,rfl,hinv⟩:=hrel;clear HS HB HR;by_cases hlt:k < n
  ·obtain⟨b,off,A2,c2,bs,rfl,hps,hc,hcc,hs⟩:=(HP.o.below hinv.o.2.2.2.1).at_ hlt;have HPK:=kq (PartOK _ w.heap.size (.slice A2 bs.length c2,bs)) ⟨A2,c2,rfl,hcc,hs⟩;have HPS:=kp hps;have hbl:bs.length≤1000000:=HL.o _ (List.mem_of_getElem? hps);have hb64:bs.length < 18446744073709551616:=by omega
   clear hps hs hcc;go_wp2_with fail;refine(bytes_any bs.length 4 _ hb64 (by omega) (by omega)).mono ?_;rintro e w2 ⟨g4,rfl,ho4,hb2⟩;have HO4:=kp ho4;have HB2:=kp hb2;clear ho4 hb2;have HOA:=kp (own_below hinv.o.1 HB2.o);have hbl2:=hbl;go_wp2_with (at_builtin;refine wpl_app1 rfl rfl el_su8 HOA.o rfl (m:=2) rfl rfl ?_ ?_ ?_ ?_ ?_)
   ·exact⟨rfl,rfl⟩
   ·omega
   ·omega
   ·have h1:=hinv.o.2.2.2.2.lt;have h2:=HB2.o.size;omega
   ·intro A4 c4 w4 ho hg hA;have HI:=kp (u_step hinv.o HPK.o HPS.o HB2.o HO4.o ho hg (hA.imp_right fun⟨a,h1,h2⟩=>by rw[h1];exact congrArg some h2));clear ho hg hA;go_wp2_with fail;go_roundw
    case rel=>exact⟨k+1,A4,c4,_,by omega,by go_num,by congr 1 <;> omega,HI⟩
    case measure=>simp [intOf];omega
  ·obtain rfl:k=n:=by omega
   have HE:=kp (u_end hinv.o HN.o);have HT2:=kp (HT.o.below hinv.o.2.2.2.1);have HB:=kp hinv.o.2.2.2.1;have HR:=kp hinv.o.2.2.2.2;clear HT;go_wp2_with fail;refine(dsum_any _ _ _ _ HD.o HE.o.2 _ HE.o.1 (by omega) (Nat.le_trans (underB_le m _ 1000000 (fun l hl=>by obtain⟨p,hp,rfl⟩:=List.mem_map.1 hl;exact HL.o p hp)) (by rw[List.length_map,HN.o];omega)) HT2.o).mono ?_;rintro e w5 ⟨rfl,y_⟩;have HR5:=kp (HR.o.grow y_);have HB5:=kp (HB.o.grow' y_);clear y_ HR HB HT2 HE hinv;have HR:=HR5;have HB:=HB5;clear HR5 HB5;have HG:=kp (Nat.le_refl w.heap.size);go_wp2_with (with_reducible refine wsb row_id HR.o.blk HR.o.len HD.o.len HD.o.one ?_);intro v_ b_ g_ s_;replace HB:=kp (put_below HB.o HG.o g_);replace HR:=kp (at_mk b_ HD.o.len);clear b_ g_ s_;try clear w_
   rename World=>w_;go_wp2_with fail;exact ret_cell rfl row_id HR.o.blk rfl HR.o.len rfl ⟨rfl,HB.o⟩
end Go.Proofs.YtnnjjbkdjkjnpaaGreatDoor

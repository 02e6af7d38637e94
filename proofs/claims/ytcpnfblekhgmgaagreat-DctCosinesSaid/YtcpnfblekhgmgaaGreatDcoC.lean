/- Parts of the proof: contracts of functions, each walked once, and plain laws. -/
import Derived.Test.YtcpnfblekhgmgaaGreatDcoB
import Derived.IntWalk
import Derived.KernelRfl
import Derived.Test.YtcpnfblekhgmgaaGreatProg
import Derived.OpenShut
import Derived.ChangeSlices
import Derived.Deep.Slices
import Derived.Laws.MakeOwn
import Derived.Maps.AppendAt
set_option linter.unusedVariables false
set_option maxHeartbeats 8000000
namespace Go.Proofs.YtcpnfblekhgmgaaGreat
open Nt
open Go.RowKit
namespace Nt
def bitl(v:Nat):Nat:=if v=0 then 0 else v.log2+1
theorem bitl_half{v:Nat}(h:0<v):bitl v=bitl (v/2)+1:=by
 unfold bitl
 rw[if_neg xq];rw[Nat.log2_def]
 by_cases h2:2≤v
 ·rw[if_pos h2,if_neg xq]
 rw[if_neg h2,if_pos xq]
theorem bitl_lt(v:Nat):v<2^bitl v:=by
 unfold bitl
 split
 ·rename_i h;rw[h];exact Nat.pow_pos xq
 exact Nat.lt_log2_self
theorem bitl_le{v:Nat}(h:0<v):2^(bitl v-1)≤v:=by
 unfold bitl
 rw[if_neg xq];exact Nat.log2_self_le xq
theorem bitl_unique{v k:Nat}(hk:0<k)(h1:2^(k-1)≤v)(h2:v<2^k):bitl v=k:=by
 have hv:0<v:=by have:=Nat.pow_pos (n:=k-1) (show 0<2 by omega);omega
 have a1:=bitl_lt v;have a2:=bitl_le hv;have a3:bitl v≠0:=by unfold bitl;rw[if_neg xq];omega
 have b1:2^(k-1)<2^bitl v:=by omega
 have b2:2^(bitl v-1)<2^k:=by omega
 have c1:=(Nat.pow_lt_pow_iff_right (show 1<2 by omega)).1 b1;have c2:=(Nat.pow_lt_pow_iff_right (show 1<2 by omega)).1 b2
 omega
theorem pw_two(k:Nat):pw k=((2^(32*k):Nat):Int):=by
 induction k with
 | zero=>simp[pw]
 | succ k ih=>rw[pw,ih,show 32*(k+1)=32+32*k by omega,Nat.pow_add,Int.natCast_mul];rfl
theorem bitl_digits{v k t:Nat}(hl:(digits v).length=k+1)(ht:(digits v)[k]?.getD 0=(t:Int))(h0:0<t):bitl v=32*k+bitl t:=by
 have e:(v:Int)=valTo (digits v) k+pw k*t:=by
  have h:=zyi v;rw[←zyg (digits v) (n:=k+1) xq,zyf,ht] at h;exact h.symm
 have a0:=zyy (zyj v) k;have a1:=zxr (zyj v) k;rw[pw_two] at *;generalize valTo (digits v) k=r at *
 have e2:v=r.toNat+2^(32*k)*t:=by
  have:((r.toNat+2^(32*k)*t:Nat):Int)=r+((2^(32*k):Nat):Int)*t:=by rw[Int.natCast_add,Int.natCast_mul];omega
  omega
 have b1:=bitl_lt t;have b2:=bitl_le h0;have a3:bitl t≠0:=by unfold bitl;rw[if_neg xq];omega
 apply bitl_unique xq
 ·rw[e2,show 32*k+bitl t-1=32*k+(bitl t-1) by omega,Nat.pow_add];have:=Nat.mul_le_mul_left (2^(32*k)) b2
  omega
 rw[e2,Nat.pow_add];have:2^(32*k)*(t+1)≤2^(32*k)*2^bitl t:=Nat.mul_le_mul_left _ b1;rw[Nat.mul_add] at this
 omega
theorem p2_pw(s:Nat):(2:Int)^s=2^(s%32)*pw (s/32):=by
 rw[pw_two];have:(2:Nat)^s=2^(s%32)*2^(32*(s/32)):=by rw[←Nat.pow_add];congr 1;omega
 have h2:=congrArg (fun z:Nat=>(z:Int)) this
 simpa using h2
theorem shl_snoc{S x:List Int}{i q:Nat}{cy z t:Int}(hl:S.length=q+i)(h:val S+cy*pw (q+i)=valTo x i*z*pw q)(ht:t=x[i]?.getD 0*z+cy):
  val (S++[t%4294967296])+(t/4294967296)*pw (q+(i+1))=valTo x (i+1)*z*pw q:=by
 rw[snoc_val,zyf,hl,←Nat.add_assoc,pw];have e:=Int.mul_ediv_add_emod t 4294967296;generalize t%4294967296=r at *;generalize t/4294967296=u at *;rw[pw_add] at *
 grind
end Nt
theorem rBitLen_any(A:Option Addr)(n c:Nat)(a:List Int)(w:World)(ha:SlR .u32 w A n c a)(da:Dig a)(hn:n≤1000000000):
  qyc 186 #[.slice A n c] w fun e w'=>e=.returned (.int .i64 (bitl (Nt.val a).toNat))∧Below w.heap.size w w':=by
 have lx:Hid ((digits (Nt.val a).toNat).length≤n):=by rw[←zxs da,←ha.1];exact zyh a
 go_enter Tryz.func186,Tryz.ntmps186
 go_wp2_with fail
 refine(zxf _ _ _ _ _ ha da xq).mono ?_;rintro e w1 ⟨A1,N,c1,rfl,f1,ab⟩;have hx:=f1.nat.2.1;have eN:=Lib.hid f1.1;have hN:N≤1000000000:=by have:=f1.1;have:=lx.out;omega
 clear f1 ha da lx;obtain⟨X,hX⟩:∃X,X=(Nt.val a).toNat:=⟨_,rfl⟩
 have HX:=Lib.hid hX;rw[←hX] at hx eN;clear hX
 rcases N with _|k
 ·have h0:Hid (bitl (Nt.val a).toNat=0):=by
   have e1:=eN.out;show _=_;rw[←HX.out]
   have:X=0:=by
    rcases Nat.eq_zero_or_pos X with h|h
    ·exact h
    have:=zwo h;omega
   rw[this];rfl
  go_wp2
  go_ret
  exact⟨by rw[h0.out];rfl,ab⟩
 obtain⟨b,o,rfl,_,hc⟩:=hx.pos (i:=k) xq;have hcm:=hx.2.1;have ht:=(zyj X).at k;have hne:=norm_last (k:=k) (zxm X) eN.out.symm;obtain⟨t,aa⟩:∃t:Nat,(digits X)[k]?.getD 0=(t:Int):=⟨((digits X)[k]?.getD 0).toNat,by omega⟩
 have hfin:=bitl_digits eN.out.symm aa xq;rw[aa] at hc hne ht;have Hfin:Hid (bitl (Nt.val a).toNat=32*k+bitl t):=by show _=_;rw[←HX.out];exact hfin
 have hkb:((k:Int)+1==0)=false:=by rw[beq_eq_false_iff_ne];omega
 clear hfin aa hx
 go_wp2
 have ac:bitl t≤32:=by
  have h1:=bitl_le (v:=t) xq;have h3:2^(bitl t-1)<2^32:=by omega
  have:=(Nat.pow_lt_pow_iff_right (show 1<2 by omega)).1 h3
  omega
 go_loop [3,4] (fun nv xv=>∃(x j:Nat),x<4294967296∧j≤100000000000∧nv=.int .i64 j∧xv=.int .u32 x∧Hid (j+bitl x=32*k+bitl t)) (fun _ xv=>(intOf xv).toNat)
 case atStart=>exact⟨t,32*k,by omega,by omega,by go_num,rfl,rfl⟩
 case round=>
  obtain⟨x,j,hx,hj,rfl,rfl,hs⟩:=hrel
  rcases Nat.eq_zero_or_pos x with h|h
  ·subst h;have hv:Hid (bitl (Nt.val a).toNat=j):=by show _=_;rw[Hfin.out,←hs.out];rfl
   go_wp2
   go_ret
   exact⟨by rw[hv.out];rfl,ab⟩
  have hs':Hid (j+1+bitl (x/2)=32*k+bitl t):=by have:=hs.out;rw[bitl_half h] at this;show _=_;omega
  have ad:j+1≤100000000000:=by have:=hs'.out;omega
  go_wp2
  go_round
  case rel=>exact⟨x/2,j+1,by omega,ad,by go_num,by go_num,hs'⟩
  case measure=>simp[intOf];omega
theorem rShift_pos(A:Option Addr)(n c s:Nat)(a:List Int)(w:World)(ha:SlR .u32 w A n c a)(da:Dig a)(hn:n≤1000000000)(hs:s≤65536):
  qyc 178 #[.slice A n c,.int .i64 s] w fun e w'=>∃A' n' c',e=.returned (.slice A' n' c')∧OwnF w w' A' n' c' (Nt.val a*2^s).toNat∧Below w.heap.size w w':=by
 have lx:Hid ((digits (Nt.val a).toNat).length≤n):=by rw[←zxs da,←ha.1];exact zyh a
 have a0:=zxc da;have hsd:decide (65536<(s:Int))=false:=by simp;omega
 have aj:decide ((s:Int)<0)=false:=by simp
 go_enter Tryz.func178,Tryz.ntmps178
 go_wp2_with fail
 refine(zxf _ _ _ _ _ ha da xq).mono ?_;rintro e w1 ⟨A1,N,c1,rfl,f1,ab⟩;have hx:=f1.nat.2.1;have eN:=Lib.hid f1.1;have hN:N≤1000000000:=by have:=f1.1;have:=lx.out;omega
 clear f1 ha da lx;obtain⟨X,hX⟩:∃X,X=(Nt.val a).toNat:=⟨_,rfl⟩
 have HX:Hid (Nt.val a=Nt.val (digits X)):=by show _=_;rw[zyi,hX];omega
 rw[←hX] at hx eN;clear hX a0;have dx:=Lib.hid (zyj X);generalize digits X=x at *
 rcases Nat.eq_zero_or_pos N with h0|h0
 ·subst h0
  have hz:Hid ((Nt.val a*2^s).toNat=0):=by
   have e1:x=[]:=List.eq_nil_of_length_eq_zero eN.out.symm;show _=_;rw[HX.out,e1];simp[Nt.val]
  go_wp2
  go_ret
  refine⟨none,0,0,rfl,?_,ab⟩;rw[hz.out];exact⟨by rw[zxa];rfl,by rw[zxa];exact⟨rfl,rfl,.inl ⟨rfl,rfl⟩⟩⟩
 have hN0:((N:Int)==0)=false:=by rw[beq_eq_false_iff_ne];omega
 obtain⟨q,hq1,hq2⟩:∃q,32*q≤s∧s<32*q+32:=⟨s/32,by omega,by omega⟩
 go_wp2_with (at_make;refine zxg _ rfl (.tmp 68) (.tmp 68) _ rfl 77 .u32 4 Tryz.underlying31 zxj _ _ _ _ q rfl rfl ?L ?C ?b2 ?b3 ?_)
 case L=>show _=_;omega
 case C=>show _=_;omega
 case b2=>omega
 case b3=>unfold maxLen;omega
 intro w2 ah af ai;have hB2:Below w.heap.size w w2:=ab.trans (af.mono ab.size);have hx2:=hx.below af;have hk:OwnK .u32 w2 w1.heap.size 77 (some ⟨w1.heap.size,0,none⟩) q q (List.replicate q 0):=ah.own qyl (by simp) yv;have aa:s%32<32:=by omega
 have hqs:Hid (q=s/32):=by show _=_;omega
 have hw1:=ab.size;have hxw:=Lib.hid hx;have HB2:=Lib.hid af;clear ah ai af hx
 go_wp2
 go_loopw [8,9,10] (fun sv cv iv wr=>∃(i:Nat) (cy:Int) (S:List Int) (A2:Option Addr) (c2:Nat),i≤N∧0≤cy∧Hid (cy<2^(s%32))∧sv=.slice A2 (q+i) c2∧cv=.int .u64 cy∧iv=.int .i64 i∧OwnK .u32 wr w1.heap.size 77 A2 (q+i) c2 S∧Hid (Dig S)∧Hid (Nt.val S+cy*pw (q+i)=valTo x i*2^(s%32)*pw q)∧Hid (SlR .u32 wr A1 N c1 x)∧Below w1.heap.size w1 wr) (fun _ _ iv _=>N-(intOf iv).toNat)
 case atStart=>exact⟨0,0,_,_,_,by omega,by omega,p2_pos _,rfl,rfl,rfl,hk,Dig.repl _,by show _=_;rw[zxe,val_repl];simp,hx2,HB2.out⟩
 case round=>
  clear hk hx2;obtain⟨i,cy,S,A2,c2,hi,am,ae,rfl,rfl,rfl,hk,dS,hv,hx,hbr⟩:=hrel;have hSl:=Lib.hid hk.1
  by_cases hin:i<N
  ·obtain⟨b1,o1,rfl,_,an⟩:=hx.out.pos hin;have q1:=dx.out.at i;obtain⟨xi,hxi⟩:∃xi,xi=x[i]?.getD 0:=⟨_,rfl⟩
   rw[←hxi] at an q1;have Hst:=Lib.hid (shl_snoc (t:=xi*2^(s%32)+cy) hSl.out hv.out (by rw[hxi]));have hin':(i:Int)<N:=by omega
   have ak:Hid (SlR .u32 w1 (some ⟨b1,o1,none⟩) N c1 x):=hxw.out;clear hxi;have hl:=hi_lift aa q1.1 q1.2;have hl1:=hl.1;have hl2:=hl.2.1;have hp:=p2_le aa;have ap:cy<2147483648:=by have:=ae.out;omega
   have or1:bits .or .u64 cy (xi*2^(s%32))=xi*2^(s%32)+cy:=by
    have hc:bits .or .u64 cy (xi*2^(s%32))=bits .or .u64 (xi*2^(s%32)) cy:=by simp only[bits,BitVec.or_comm]
    rw[hc];exact or_add xq hl1 (Int.mul_emod_left _ _) xq am ae.out
   have hcy':Hid ((xi*2^(s%32)+cy)/4294967296<2^(s%32)):=by
    have k1:xi*2^(s%32)≤4294967295*2^(s%32):=Int.mul_le_mul_of_nonneg_right xq (by have:=p2_pos (s%32);omega);have k2:=ae.out;show _<_
    omega
   have hnew:Hid (SlR .u32 (wr.alloc (.cells #[.int .u32 ((xi*2^(s%32)+cy)%4294967296)] 77)) (some ⟨wr.heap.size,0,none⟩) 1 1 [(xi*2^(s%32)+cy)%4294967296]):=(KBlk.new wr 77 [(xi*2^(s%32)+cy)%4294967296]).slr_all rfl qyl xw;clear hl
   go_wp2_with (at_builtin;refine zxh _ rfl (.tmp 87) (.tmp 90) _ rfl 77 .u32 4 Tryz.underlying31 zxj w1.heap.size A2 (q+i) c2 S rfl ?own (some ⟨wr.heap.size,0,none⟩) 1 1 [(xi*2^(s%32)+cy)%4294967296] rfl ?slr ?h63 ?hby ?hbase ?_)
   case own=>exact hk.below ((Below.refl _ _).alloc qyl _)
   case slr=>exact hnew.out
   case h63=>unfold maxLen;omega
   case hby=>omega
   case hbase=>have:=hbr.size;simp;omega
   intro A3 c3 w3 ad ac;have Ho:Hid (OwnK .u32 w3 w1.heap.size 77 A3 (q+(i+1)) c3 (S++[(xi*2^(s%32)+cy)%4294967296])):=ad
   have al:Hid (SlR .u32 w3 (some ⟨b1,o1,none⟩) N c1 x):=by
    have hxa:=ak.out;exact hxa.below ((hbr.alloc hbr.size _).trans ac)
   have HB:Hid (Below w1.heap.size w1 w3):=(hbr.alloc hbr.size _).trans ac;clear hnew ad ac hk hv hx
   go_wp2
   go_roundw
   case rel=>exact⟨i+1,_,_,A3,c3,by omega,by omega,hcy',by rw[Nat.add_assoc],rfl,by go_num,Ho.out,dS.out.snoc xq,Hst.out,al,HB.out⟩
   case measure=>simp[intOf];omega
  obtain rfl:i=N:=by omega
  have hp:=p2_le aa;have ap:cy<2147483648:=by have:=ae.out;omega
  have hval:Nt.val (S++[cy])=Nt.val a*2^s:=by
   have h1:=hv.out;rw[zyg x (by have:=eN.out;omega)] at h1;rw[snoc_val,hSl.out,Int.mul_comm (pw (q+i)),h1,HX.out,p2_pw s,hqs.out,Int.mul_assoc]
  have Hval:=Lib.hid hval;have dS2:=Lib.hid (dS.out.snoc (x:=cy) xq);have hnew:Hid (SlR .u32 (wr.alloc (.cells #[.int .u32 cy] 77)) (some ⟨wr.heap.size,0,none⟩) 1 1 [cy]):=(KBlk.new wr 77 [cy]).slr_all rfl qyl xw;clear hval
  go_wp2_with (at_builtin;refine zxh _ rfl (.tmp 94) (.tmp 97) _ rfl 77 .u32 4 Tryz.underlying31 zxj w1.heap.size A2 (q+i) c2 S rfl ?own2 (some ⟨wr.heap.size,0,none⟩) 1 1 [cy] rfl ?slr2 ?h632 ?hby2 ?hbase2 ?_)
  case own2=>exact hk.below ((Below.refl _ _).alloc qyl _)
  case slr2=>exact hnew.out
  case h632=>unfold maxLen;omega
  case hby2=>omega
  case hbase2=>have:=hbr.size;simp;omega
  intro A3 c3 w3 ad ac;have HB:Hid (Below w1.heap.size w1 w3):=(hbr.alloc hbr.size _).trans ac;have Hs:=Lib.hid ad.slr;clear hnew ad ac hk hv
  go_wp2_with fail
  refine(zxf _ _ _ _ _ Hs.out dS2.out xq).mono ?_;rintro e w4 ⟨A4,n4,c4,rfl,f4,ao⟩;rw[Hval.out] at f4;have HF:=Lib.hid f4;clear f4
  go_wp2
  go_ret
  have ag:Below w.heap.size w w3:=ab.trans (HB.out.mono ab.size);exact⟨A4,n4,c4,rfl,⟨HF.out.1,HF.out.2.mono ag.size⟩,ag.trans (ao.mono ag.size)⟩
namespace Nt
theorem shr_dig{x y:Int}{s:Nat}(h:s<32)(x0:0≤x)(x1:x<4294967296)(y0:0≤y)(y1:y<4294967296):
  (x+y*4294967296)/2^s%4294967296=x/2^s+y%2^s*2^(32-s)∧0≤x/2^s+y%2^s*2^(32-s)∧x/2^s+y%2^s*2^(32-s)<4294967296:=by
 have hs:=p2_split h;have p0:=p2_pos s;have m0:=Int.emod_nonneg y (b:=2^s) xq;have m1:=Int.emod_lt_of_pos y p0;obtain⟨c0,c1,d0,d1,d2,_⟩:=low_dig h x0 x1 m0 m1
 have e1:(x+y*4294967296)/2^s=x/2^s+y*2^(32-s):=by
  rw[←hs,Int.mul_comm (2^s),←Int.mul_assoc,Int.add_mul_ediv_right _ _ xq]
 have e2:=(low_hi h y0 y1).2.2;refine⟨?_,by omega,d2⟩;rw[e1];generalize y*2^(32-s)=z at *;generalize y%2^s*2^(32-s)=u at *
 omega
theorem shr_snoc{S x:List Int}{i s:Nat}{c0:Int}(h:s<32)(hl:S.length=i)(hv:2^s*val S=valTo x i-c0+x[i]?.getD 0%2^s*pw i):
  2^s*val (S++[x[i]?.getD 0/2^s+x[i+1]?.getD 0%2^s*2^(32-s)])=valTo x (i+1)-c0+x[i+1]?.getD 0%2^s*pw (i+1):=by
 rw[snoc_val,zyf,hl,pw];have e:=Int.mul_ediv_add_emod (x[i]?.getD 0) (2^s);have hs:=p2_split h;generalize x[i]?.getD 0/2^s=q at *;generalize x[i]?.getD 0%2^s=r at *;generalize x[i+1]?.getD 0%2^s=r' at *;generalize (2:Int)^s=p at *;generalize (2:Int)^(32-s)=z at *
 grind
end Nt
theorem rShift_neg(A:Option Addr)(n c s:Nat)(a:List Int)(w:World)(ha:SlR .u32 w A n c a)(da:Dig a)(hn:n≤1000000000)(hs0:0<s)(hs:s<32):
  qyc 178 #[.slice A n c,.int .i64 (-(s:Int))] w fun e w'=>∃A' n' c',e=.returned (.slice A' n' c')∧OwnF w w' A' n' c' (Nt.val a/2^s).toNat∧Below w.heap.size w w':=by
 have lx:Hid ((digits (Nt.val a).toNat).length≤n):=by rw[←zxs da,←ha.1];exact zyh a
 have a0:=zxc da;have hsd:decide (65536 < -(s:Int))=false:=by rw[decide_eq_false_iff_not];omega
 have af:decide (-(s:Int)<0)=true:=by simp;omega
 have hdv:(s:Int)/32=0:=by omega
 have hmd:(s:Int)%32=s:=by omega
 have aj:s%32=s:=by omega
 go_enter Tryz.func178,Tryz.ntmps178
 go_wp2_with fail
 refine(zxf _ _ _ _ _ ha da xq).mono ?_;rintro e w1 ⟨A1,N,c1,rfl,f1,ac⟩;have hx:=f1.nat.2.1;have eN:=Lib.hid f1.1;have hN:N≤1000000000:=by have:=f1.1;have:=lx.out;omega
 clear f1 ha da lx;obtain⟨X,hX⟩:∃X,X=(Nt.val a).toNat:=⟨_,rfl⟩
 have HX:Hid (Nt.val a=Nt.val (digits X)):=by show _=_;rw[zyi,hX];omega
 rw[←hX] at hx eN;clear hX a0;have dx:=Lib.hid (zyj X);generalize digits X=x at *
 rcases Nat.eq_zero_or_pos N with h0|h0
 ·subst h0
  have hz:Hid ((Nt.val a/2^s).toNat=0):=by
   have e1:x=[]:=List.eq_nil_of_length_eq_zero eN.out.symm;show _=_;rw[HX.out,e1];simp[Nt.val]
  go_wp2
  go_ret
  refine⟨none,0,0,rfl,?_,ac⟩;rw[hz.out];exact⟨by rw[zxa];rfl,by rw[zxa];exact⟨rfl,rfl,.inl ⟨rfl,rfl⟩⟩⟩
 have hN0:((N:Int)==0)=false:=by rw[beq_eq_false_iff_ne];omega
 have hlt:decide (-(s:Int) < -32*(N:Int))=false:=by simp;omega
 have ai:decide (-(s:Int) < -(32*(N:Int)))=false:=by simp;omega
 have hxw:=Lib.hid hx;clear hx
 go_wp2
 go_loopw [5,6] (fun sv iv wr=>∃(i:Nat) (S:List Int) (A2:Option Addr) (c2:Nat),i≤N∧sv=.slice A2 i c2∧iv=.int .i64 i∧OwnK .u32 wr w1.heap.size 77 A2 i c2 S∧Hid (Dig S)∧Hid (2^s*Nt.val S=valTo x i-x[0]?.getD 0%2^s+x[i]?.getD 0%2^s*pw i)∧Below w1.heap.size w1 wr) (fun _ iv _=>N-(intOf iv).toNat)
 case atStart=>exact⟨0,[],none,0,by omega,rfl,rfl,⟨rfl,rfl,.inl ⟨rfl,rfl⟩⟩,Dig.nil,by show _=_;simp[zxe,Nt.val,pw];omega,Below.refl _ _⟩
 case round=>
  obtain⟨i,S,A2,c2,hi,rfl,rfl,hk,dS,hv,hbr⟩:=hrel;have hSl:=Lib.hid hk.1
  by_cases hin:i<N
  ·obtain⟨b1,o1,rfl,_,hc1⟩:=(hxw.out.below hbr).pos hin;have q1:=dx.out.at i;have q2:=dx.out.at (i+1);have Hst:=Lib.hid (shr_snoc hs hSl.out hv.out);have Hdg:=Lib.hid (shr_dig hs q1.1 q1.2 q2.1 q2.2);have hin':(i:Int)<N:=by omega
   by_cases hin2:i+1<N
   ·obtain⟨b2,o2,ae,_,hc2⟩:=(hxw.out.below hbr).pos hin2;obtain⟨rfl,rfl⟩:b1=b2∧o1=o2:=by cases ae;exact⟨rfl,rfl⟩
    clear ae;have hin2':(i:Int)+1<N:=by omega
    have or1:=or_swap q1.1 q1.2 q2.1 q2.2;have Hd:=Lib.hid (Hdg.out.1);have hnew:Hid (SlR .u32 (wr.alloc (.cells #[.int .u32 ((x[i]?.getD 0+x[i+1]?.getD 0*4294967296)/2^s%4294967296)] 77)) (some ⟨wr.heap.size,0,none⟩) 1 1 [(x[i]?.getD 0+x[i+1]?.getD 0*4294967296)/2^s%4294967296]):=(KBlk.new wr 77 [(x[i]?.getD 0+x[i+1]?.getD 0*4294967296)/2^s%4294967296]).slr_all rfl qyl xw
    go_wp2_with (at_builtin;refine zxh _ rfl (.tmp 56) (.tmp 63) _ rfl 77 .u32 4 Tryz.underlying31 zxj w1.heap.size A2 i c2 S rfl ?own (some ⟨wr.heap.size,0,none⟩) 1 1 [(x[i]?.getD 0+x[i+1]?.getD 0*4294967296)/2^s%4294967296] rfl ?slr ?h63 ?hby ?hbase ?_)
    case own=>exact hk.below ((Below.refl _ _).alloc qyl _)
    case slr=>exact hnew.out
    case h63=>unfold maxLen;omega
    case hby=>omega
    case hbase=>have:=hbr.size;simp;omega
    intro A3 c3 w3 aa ab;rw[Hd.out] at aa;have Ho:=Lib.hid aa;have HB:Hid (Below w1.heap.size w1 w3):=(hbr.alloc hbr.size _).trans ab;clear hnew aa ab hk hv
    go_wp2
    go_roundw
    case rel=>exact⟨i+1,_,A3,c3,by omega,rfl,by go_num,Ho.out,dS.out.snoc Hdg.out.2,Hst.out,HB.out⟩
    case measure=>simp[intOf];omega
   have hin2':¬(i:Int)+1<N:=by omega
   have e2:x[i+1]?.getD 0=0:=by rw[List.getElem?_eq_none (by have:=eN.out;omega)];rfl
   have p0:=p2_pos s;have z0:0≤x[i]?.getD 0/2^s:=Int.ediv_nonneg q1.1 xq;have z1:x[i]?.getD 0/2^s<4294967296:=by have:=Hdg.out;rw[e2] at this;simp at this;omega
   have ah:Hid (x[i]?.getD 0/2^s=x[i]?.getD 0/2^s+x[i+1]?.getD 0%2^s*2^(32-s)):=by show _=_;rw[e2];simp
   clear e2;have Hd:=Lib.hid (ah.out);have hnew:Hid (SlR .u32 (wr.alloc (.cells #[.int .u32 (x[i]?.getD 0/2^s)] 77)) (some ⟨wr.heap.size,0,none⟩) 1 1 [x[i]?.getD 0/2^s]):=(KBlk.new wr 77 [x[i]?.getD 0/2^s]).slr_all rfl qyl xw
   go_wp2_with (at_builtin;refine zxh _ rfl (.tmp 56) (.tmp 63) _ rfl 77 .u32 4 Tryz.underlying31 zxj w1.heap.size A2 i c2 S rfl ?own (some ⟨wr.heap.size,0,none⟩) 1 1 [x[i]?.getD 0/2^s] rfl ?slr ?h63 ?hby ?hbase ?_)
   case own=>exact hk.below ((Below.refl _ _).alloc qyl _)
   case slr=>exact hnew.out
   case h63=>unfold maxLen;omega
   case hby=>omega
   case hbase=>have:=hbr.size;simp;omega
   intro A3 c3 w3 aa ab;rw[Hd.out] at aa;have Ho:=Lib.hid aa;have HB:Hid (Below w1.heap.size w1 w3):=(hbr.alloc hbr.size _).trans ab;clear hnew aa ab hk hv
   go_wp2
   go_roundw
   case rel=>exact⟨i+1,_,A3,c3,by omega,rfl,by go_num,Ho.out,dS.out.snoc Hdg.out.2,Hst.out,HB.out⟩
   case measure=>simp[intOf];omega
  obtain rfl:i=N:=by omega
  have hval:Nt.val S=Nt.val a/2^s:=by
   have h1:=hv.out;have p0:=p2_pos s;have m0:=Int.emod_nonneg (x[0]?.getD 0) (b:=2^s) xq;have m1:=Int.emod_lt_of_pos (x[0]?.getD 0) p0;have e2:x[i]?.getD 0=0:=by rw[List.getElem?_eq_none (by have:=eN.out;omega)];rfl
   rw[zyg x (by have:=eN.out;omega),e2] at h1
   simp only[Int.zero_emod,Int.zero_mul,Int.add_zero] at h1
   rw[HX.out];have:=(div_of p0 (a:=Nt.val x) (q:=Nt.val S) (r:=x[0]?.getD 0%2^s) (by rw[Int.mul_comm];omega) m0 m1).1;exact this.symm
  have Hval:=Lib.hid hval;have Hs:=Lib.hid hk.slr;clear hval hk hv
  go_wp2_with fail
  refine(zxf _ _ _ _ _ Hs.out dS.out xq).mono ?_;rintro e w4 ⟨A4,n4,c4,rfl,f4,ag⟩;rw[Hval.out] at f4;have HF:=Lib.hid f4;clear f4
  go_wp2
  go_ret
  have ad:Below w.heap.size w wr:=ac.trans (hbr.mono ac.size);exact⟨A4,n4,c4,rfl,⟨HF.out.1,HF.out.2.mono ad.size⟩,ad.trans (ag.mono ad.size)⟩
theorem rShift_down(A:Option Addr)(n c z:Nat)(a:List Int)(w:World)(ha:SlR .u32 w A n c a)(da:Dig a)(hn:n≤1000000000)(hz:z<32):
  qyc 178 #[.slice A n c,.int .i64 (-(z:Int))] w fun e w'=>∃A' n' c',e=.returned (.slice A' n' c')∧OwnF w w' A' n' c' (Nt.val a/2^z).toNat∧Below w.heap.size w w':=by
 rcases Nat.eq_zero_or_pos z with h|h
 ·subst h;have k:=rShift_pos A n c 0 a w ha da hn xq
  simp only[Int.pow_zero,Int.mul_one,Int.ediv_one] at k ⊢
  exact k
 exact rShift_neg A n c z a w ha da hn h hz
namespace Nt
theorem and_low{p:Int}(h0:0≤p)(h1:p<18446744073709551616):bits .and .u64 p 4294967295=p%4294967296:=
 bits_mask .u64 64 xw (fun n h0 h1=>by rw[IntKind.wrap_u64];omega) 32 xw p h0 h1
structure DigP(j n i:Nat)(L v S:List Int)(q cr bo:Int):Prop where
 len:S.length=L.length
 dig:Dig S
 sum:valTo (S.drop j) i+q*valTo v i=valTo (L.drop j) i+(cr+bo)*pw i
 same:∀k,k<j∨j+i≤k→S[k]? = L[k]?
theorem DigP.next{j n i:Nat}{L v S:List Int}{q cr bo d x p t:Int}(h:DigP j n i L v S q cr bo)(hj:j+(n+2)+1≤L.length)(hi:i<n+2)(hd:d=v[i]?.getD 0)(hx:x=S[j+i]?.getD 0)(hp:p=q*d+cr)(ht:t=x-p%4294967296-bo)(t0:-4294967296≤t)(t1:t<4294967296):
  DigP j n (i+1) L v (S.set (j+i) (t%4294967296)) q (p/4294967296) (if t<0 then 1 else 0):=by
 refine⟨by rw[List.length_set];exact h.len,h.dig.set _ xq,?_,?_⟩
 ·rw[drop_set];refine ms_step (M:=S.drop j) (u:=L.drop j) (v:=v) (p:=p) (t:=t) (by have:=h.len;simp;omega) h.sum ?_ (by rw[←hd];exact hp) (by rw[zxi,←hx];exact ht) t0 t1;rw[zxi,zxi,h.same (j+i) (.inr qyl)]
 intro k hk;rw[List.getElem?_set_ne xq];exact h.same k xq
structure DigQ(j n i:Nat)(M v R:List Int)(c:Int):Prop where
 len:R.length=M.length
 dig:Dig R
 sum:valTo (R.drop j) i+c*pw i=valTo (M.drop j) i+valTo v i
 same:∀k,k<j∨j+i≤k→R[k]? = M[k]?
theorem DigQ.next{j n i:Nat}{M v R:List Int}{c d x t:Int}(h:DigQ j n i M v R c)(hj:j+(n+2)+1≤M.length)(hi:i<n+2)(hd:d=v[i]?.getD 0)(hx:x=R[j+i]?.getD 0)(ht:t=x+d+c):
  DigQ j n (i+1) M v (R.set (j+i) (t%4294967296)) (t/4294967296):=by
 refine⟨by rw[List.length_set];exact h.len,h.dig.set _ xq,?_,?_⟩
 ·rw[drop_set];refine ab_step (M:=M.drop j) (R:=R.drop j) (v:=v) (t:=t) (by have:=h.len;simp;omega) h.sum ?_ (by rw[zxi,←hx,←hd];exact ht);rw[zxi,zxi,h.same (j+i) (.inr qyl)]
 intro k hk;rw[List.getElem?_set_ne xq];exact h.same k xq
def DigR(j N:Nat)(L v L':List Int)(q:Int):Prop:=L'.length=L.length∧Dig L'∧(∀k,k<j∨j+N+1≤k→L'[k]? = L[k]?)∧0≤q∧q<4294967296∧valTo (L.drop j) (N+1)=q*val v+valTo (L'.drop j) (N+1)∧valTo (L'.drop j) (N+1)<val v
theorem DigP.done{j n:Nat}{L v S:List Int}{q cr bo u0 t T top v1 v2 u2:Int}(h:DigP j n (n+2) L v S q cr bo)(hj:j+(n+2)+1≤L.length)(hv:v.length=n+2)(dv:Dig v)(dL:Dig L)(hu:u0=L[j+(n+2)]?.getD 0)(ht:t=u0-cr-bo)(t0:0≤t)(t1:t<4294967296)(q0:0≤q)(q1:q<4294967296)(hF:DivFacts j n L v top u2 v1 v2)(hT:T=valTo (L.drop j) (n+3)/val v)(hG:Good T top v1 v2 u2 q)(h1:1≤v1)(h2:0≤v2):
  DigR j (n+2) L v (S.set (j+(n+2)) t) q:=by
 have hs:=h.sum;rw[zyg v xq] at hs
 have e:valTo ((S.set (j+(n+2)) t).drop j) (n+2+1)=valTo (L.drop j) (n+2+1)-q*val v:=by
  rw[drop_set,zxl _ _ (by have:=h.len;simp;omega)];refine ms_end0 (Ul:=valTo (L.drop j) (n+2)) (uN:=u0) hs ?_ ht;rw[zyf,zxi,←hu]
 have hend:=hG.end (pw_pos n) hF.eV (zyy dv n) (zxr dv n) hF.eU (zyy (dL.drop j) n) h1 h2 (by rw[hT];exact hF.tU) hF.vp;refine⟨by rw[List.length_set];exact h.len,h.dig.set _ ⟨t0,t1⟩,?_,q0,q1,?_,?_⟩
 ·intro k hk;rw[List.getElem?_set_ne xq];exact h.same k xq
 ·rw[e];omega
 rw[e];exact hend.2
theorem DigQ.done{j n:Nat}{L v S R:List Int}{q cr bo u0 t c T top v1 v2 u2:Int}(h0:DigP j n (n+2) L v S q cr bo)(h:DigQ j n (n+2) (S.set (j+(n+2)) (t%4294967296)) v R c)(hj:j+(n+2)+1≤L.length)(hv:v.length=n+2)(dv:Dig v)(dL:Dig L)(hu:u0=L[j+(n+2)]?.getD 0)(ht:t=u0-cr-bo)(t0:t<0)(t1:-4294967296≤t)(q0:0≤q)(q1:q<4294967296)(hF:DivFacts j n L v top u2 v1 v2)(hT:T=valTo (L.drop j) (n+3)/val v)(hG:Good T top v1 v2 u2 q)(h1:1≤v1)(h2:0≤v2):
  R[j+(n+2)]?.getD 0=t%4294967296∧1≤q∧(t%4294967296+c)%4294967296=0∧DigR j (n+2) L v (R.set (j+(n+2)) 0) (q-1):=by
 have hs:=h0.sum;have ha:=h.sum;rw[zyg v xq] at hs ha
 have e:valTo (S.drop j) (n+2)+pw (n+2)*t=valTo (L.drop j) (n+2+1)-q*val v:=by
  refine ms_end0 (Ul:=valTo (L.drop j) (n+2)) (uN:=u0) hs ?_ ht;rw[zyf,zxi,←hu]
 have hend:=hG.end (pw_pos n) hF.eV (zyy dv n) (zxr dv n) hF.eU (zyy (dL.drop j) n) h1 h2 (by rw[hT];exact hF.tU) hF.vp;have hU0:=zyy (dL.drop j) (n+2+1);rw[show n+3=n+2+1 by omega] at hend;have hX:=zxr (h0.dig.drop j) (n+2);have hP:=pw_pos (n+2);have hVP:=val_lt dv;rw[hv] at hVP
 have hneg:valTo (L.drop j) (n+2+1)-q*val v<0:=by
  have:pw (n+2)*t≤pw (n+2)*(-1):=Int.mul_le_mul_of_nonneg_left xq xq
  omega
 have hq1:1≤q:=by
  rcases(show q=0∨1≤q by omega) with hq|hq
  ·rw[hq] at hneg;omega
  exact hq
 have hsl:valTo ((S.set (j+(n+2)) (t%4294967296)).drop j) (n+2)=valTo (S.drop j) (n+2):=by rw[drop_set,valTo_set_lt _ _ qyl]
 rw[hsl] at ha;have hlen:(S.set (j+(n+2)) (t%4294967296)).length=L.length:=by rw[List.length_set];exact h0.len
 obtain⟨k1,k2⟩:=ab_end hP ha e.symm (zyy (h.dig.drop j) (n+2)) (zxr (h.dig.drop j) (n+2)) (by have:=hend.1;omega) xq;refine⟨?_,hq1,by omega,by rw[List.length_set,h.len,hlen],h.dig.set _ xq,?_,by omega,by omega,?_,?_⟩
 ·rw[h.same _ (.inr qyl)]
  simp[show j+(n+2)<S.length by have:=h0.len;omega]
 ·intro k hk;rw[List.getElem?_set_ne xq,h.same k xq,List.getElem?_set_ne xq];exact h0.same k xq
 ·rw[drop_set,zxl _ _ (by rw[List.length_drop,h.len,hlen];omega),k2,Int.sub_mul];omega
 rw[drop_set,zxl _ _ (by rw[List.length_drop,h.len,hlen];omega),k2];omega
theorem DigP.neg{j n:Nat}{L v S:List Int}{q cr bo u0 t:Int}(h0:DigP j n (n+2) L v S q cr bo)(hv:v.length=n+2)(dL:Dig L)(hu:u0=L[j+(n+2)]?.getD 0)(ht:t=u0-cr-bo)(t0:t<0)(q0:0≤q):1≤q:=by
 have hs:=h0.sum;rw[zyg v xq] at hs
 have e:valTo (S.drop j) (n+2)+pw (n+2)*t=valTo (L.drop j) (n+2+1)-q*val v:=by
  refine ms_end0 (Ul:=valTo (L.drop j) (n+2)) (uN:=u0) hs ?_ ht;rw[zyf,zxi,←hu]
 have hU0:=zyy (dL.drop j) (n+2+1);have hX:=zxr (h0.dig.drop j) (n+2);have hP:=pw_pos (n+2);have:pw (n+2)*t≤pw (n+2)*(-1):=Int.mul_le_mul_of_nonneg_left xq xq
 rcases(show q=0∨1≤q by omega) with hq|hq
 ·rw[hq] at e;omega
 exact hq
theorem lz2{y:Nat}(h0:0<y)(h1:y<4294967296):∃z:Nat,32-(bitl y:Int)=z∧z<32∧2147483648≤(y:Int)*2^z∧((y:Int)+1)*2^z≤4294967296:=by
 have p2:=bitl_le h0;have p3:=bitl_lt y;have p1:bitl y≠0:=by unfold bitl;rw[if_neg xq];omega
 have hl:bitl y≤32:=by
  have h3:2^(bitl y-1)<2^32:=by omega
  have:=(Nat.pow_lt_pow_iff_right (show 1<2 by omega)).1 h3
  omega
 generalize bitl y=b at *;have k1:2^(b-1)*2^(32-b)=2147483648:=by rw[←Nat.pow_add,show b-1+(32-b)=31 by omega]
 have k2:2^b*2^(32-b)=4294967296:=by rw[←Nat.pow_add,show b+(32-b)=32 by omega]
 have hp:0<2^(32-b):=Nat.pow_pos xq;have a1:2^(b-1)*2^(32-b)≤y*2^(32-b):=Nat.mul_le_mul_right _ p2;have a2:(y+1)*2^(32-b)≤2^b*2^(32-b):=Nat.mul_le_mul_right _ p3;rw[k1] at a1;rw[k2] at a2;refine⟨32-b,by omega,by omega,?_,?_⟩
 ·have:((y*2^(32-b):Nat):Int)=(y:Int)*2^(32-b):=by rw[Int.natCast_mul,Int.natCast_pow];rfl
  omega
 have:(((y+1)*2^(32-b):Nat):Int)=((y:Int)+1)*2^(32-b):=by rw[Int.natCast_mul,Int.natCast_pow];rfl
 omega
theorem vnorm{Y N z:Nat}{y:Int}(hl:(digits Y).length=N+2)(hy:y=(digits Y)[N+1]?.getD 0)(h1:2147483648≤y*2^z)(h2:(y+1)*2^z≤4294967296):
  (digits (Y*2^z)).length=N+2∧2147483648≤(digits (Y*2^z))[N+1]?.getD 0:=by
 have hp:=pw_pos (N+1);have hz:=p2_pos z
 have eb:(Y:Int)=valTo (digits Y) (N+1)+pw (N+1)*y:=by
  have h:=zyi Y;rw[←zyg (digits Y) (n:=N+2) xq,zyf,←hy] at h;exact h.symm
 have b0:=zyy (zyj Y) (N+1);have b1:=zxr (zyj Y) (N+1);have ep:pw (N+2)=4294967296*pw (N+1):=rfl;have ec:((Y*2^z:Nat):Int)=(Y:Int)*2^z:=by rw[Int.natCast_mul,Int.natCast_pow];rfl
 have hlt:(Y:Int)*2^z<pw (N+2):=by
  have k1:(Y:Int)*2^z<(pw (N+1)*(y+1))*2^z:=Int.mul_lt_mul_of_pos_right (by rw[eb,Int.mul_add];omega) hz;have k2:(pw (N+1)*(y+1))*2^z≤pw (N+1)*4294967296:=by rw[Int.mul_assoc];exact Int.mul_le_mul_of_nonneg_left h2 xq
  omega
 have k3:pw (N+1)*(y*2^z)≤(Y:Int)*2^z:=by
  rw[eb,Int.add_mul,Int.mul_assoc];have:0≤valTo (digits Y) (N+1)*2^z:=Int.mul_nonneg b0 xq
  omega
 have k4:pw (N+1)*2147483648≤pw (N+1)*(y*2^z):=Int.mul_le_mul_of_nonneg_left h1 xq;have l1:=digits_length_le (v:=Y*2^z) (n:=N+2) (by rw[ec];exact hlt);have l2:=digits_length_gt (v:=Y*2^z) (n:=N+1) (by rw[ec];omega);have l3:(digits (Y*2^z)).length=N+2:=by omega
 refine⟨l3,?_⟩
 have ev:(Y:Int)*2^z=valTo (digits (Y*2^z)) (N+1)+pw (N+1)*(digits (Y*2^z))[N+1]?.getD 0:=by
  have h:=zyi (Y*2^z);rw[←zyg (digits (Y*2^z)) (n:=N+2) xq,zyf,ec] at h;exact h.symm
 have v1:=zxr (zyj (Y*2^z)) (N+1);have k5:pw (N+1)*2147483648<pw (N+1)*((digits (Y*2^z))[N+1]?.getD 0+1):=by rw[Int.mul_add _ _ 1];omega
 have:=Int.lt_of_mul_lt_mul_left k5 xq
 omega
theorem ulow{u v:List Int}{M N:Nat}(du:Dig u)(hl:u.length+1=M+(N+2))(dv:Dig v)(hv:v.length=N+2)(hv1:2147483648≤v[N+1]?.getD 0):val ((u++[0]).drop M)<val v:=by
 have hd:Dig (u++[0]):=du.snoc xq;have e:=zxv (u++[0]) M;have e2:val (u++[0])=val u:=by rw[snoc_val];simp
 have u1:=val_lt du;have u0:=zyy hd M;have hp:=pw_pos M;rw[show u.length=M+(N+1) by omega,pw_add] at u1;have k2:pw M*val ((u++[0]).drop M)<pw M*pw (N+1):=by omega
 have k3:=Int.lt_of_mul_lt_mul_left k2 xq;have ev:val v=valTo v (N+1)+pw (N+1)*v[N+1]?.getD 0:=by rw[←zyg v (n:=N+2) xq,zyf]
 have v0:=zyy dv (N+1);have hp1:=pw_pos (N+1);have k4:pw (N+1)*1≤pw (N+1)*v[N+1]?.getD 0:=Int.mul_le_mul_of_nonneg_left xq xq
 omega
end Nt
theorem wpList_appendG{P:Program}(w:World){ops:Array Oper}{rest:List Oper}{o:Oper}{a:Act}{Q:Exit→Act→World→Prop}(hgd:o.guard=none)(s x:Operand)(t:TypeId)
  (ho:o.op=.call { callee:=.builtin .append,args:=#[s,x],argTypes:=#[t,t] })
  (e:TypeId) (k:IntKind) (bytes:Nat) (h1:P.underlying t=some (.slice e)) (h2:(P.info? e).map (fun i=>(i.zero,i.size,i.bytes))=some (some (.int k 0),1,bytes))
  (base:Nat) (A:Option Addr) (n c:Nat) (l:List Int) (hs:a.eval s=.slice A n c) (hown:OwnK k w base e A n c l)
  (ad:Addr) (m c':Nat) (news:List Int) (hx:a.eval x=.slice (some ad) m c') (hr:SlR k w (some ad) m c' news)
  (h63:n+m≤maxLen) (hbytes:(n+m)*bytes≤140737488355328) (hbase:base≤w.heap.size)
  (h:∀A₁ c₁ w',OwnK k w' base e A₁ (n+m) c₁ (l++news)→Below base w w'→(∀b,b<w.heap.size→(∀p,A=some p→p.block≠b)→w'.heap[b]? = w.heap[b]?)→(∀p,A₁=some p→(∃p0,A=some p0∧p.block=p0.block)∨p.block=w.heap.size)→w.heap.size≤w'.heap.size→wpList P ops Q rest (a.put o.dst (.slice A₁ (n+m) c₁)) w'):wpList P ops Q (o::rest) a w:=by
 obtain⟨i,hi,hz,hsz,hb⟩:=info_parts h2;refine wpList_plain hgd fun K hK=>?_
 obtain⟨v',w',hrun,g1,g2,_,g4⟩:=run_append_own_at (P:=P) w base t o.type e i _ 1 bytes h1 hi hz hsz hb rfl xq _ n _ hown.2 ad m c' (news.map (Value.int k)) (by simpa using hr.1)
  (by
   intro j u hu;have hj:j<m:=by rw[←hr.1];rcases Nat.lt_or_ge j news.length with h'|h';exact h';simp[List.getElem?_eq_none h'] at hu
   obtain⟨b,q,he,hlt,hcell⟩:=hr.2.2.2 xq
   injection he with he
   subst he;rw[show(⟨b,q,none⟩:Addr).add j=⟨b,q+j,none⟩ by unfold Addr.add;split<;>simp_all,hcell j hj,←hu]
   simp[show j<news.length by rw[hr.1];exact hj])
  (by intro u hu;simp at hu;obtain⟨z,_,rfl⟩:=hu;rfl) h63 hbytes hbase
 have g3:Below base w w':=(Below.refl _ _).grown g2 hbase (fun j hj=>(hown.2.lt j hj).1)
 obtain⟨A₁,c₁,hv⟩:∃A₁ c₁,v'=.slice A₁ (n+m) c₁:=by
  rcases g1.2 with ⟨he,hn⟩|⟨g,cap,cur,he,_⟩
  ·exact⟨none,0,by rw[he,hn]⟩
  exact⟨_,_,he⟩
 subst hv;have hown':OwnK k w' base e A₁ (n+m) c₁ (l++news):=⟨by simp[hown.1,hr.1],by simpa using g1⟩
 unfold Oper.wp execOp
 simp only[ho,resolve,invoke,builtin,Sem.run_bind,Sem.run_pure,Result.andThen_ok,List.map_toArray,List.map_cons,List.map_nil,hs,hx,hrun]
 refine hK _ _ (h A₁ c₁ w' hown' g3 ?_ ?_ g2.size)
 ·intro b hb' hne;refine g2.block b hb' ?_
  rcases A with _|p
  ·simp[Value.ownBlock]
  simp only[Value.ownBlock]
  intro h'
  injection h' with h'
  exact hne p rfl h'.symm
 intro p hp;subst hp
 rcases g4 with h'|h'
 ·left
  rcases A with _|p0
  ·simp[Value.ownBlock] at h'
  simp only[Value.ownBlock] at h'
  injection h' with h'
  exact⟨p0,rfl,h'⟩
 right
 simp only[Value.ownBlock] at h'
 injection h'
theorem SlR.blk{k:IntKind}{w w':World}{g o n c:Nat}{l:List Int}(h:SlR k w (some ⟨g,o,none⟩) n c l)(hb:w'.heap[g]? = w.heap[g]?)(hs:w.heap.size≤w'.heap.size):SlR k w' (some ⟨g,o,none⟩) n c l:=by
 obtain⟨h1,h2,h3,h4⟩:=h;refine⟨h1,h2,h3,fun hp=>?_⟩;obtain⟨b,q,e,hlt,hc⟩:=h4 hp
 cases e
 refine⟨g,o,rfl,by omega,fun i hi=>?_⟩;rw[←hc i hi]
 unfold World.cell?
 simp only[]
 rw[hb]
structure RW(wr w:World)(B gu Lu cu gv cv n gq:Nat)(v U Q:List Int):Prop where
 ku:OwnK .u32 wr B 77 (some ⟨gu,0,none⟩) Lu cu U
 kv:SlR .u32 wr (some ⟨gv,0,none⟩) n cv v
 kq:KBlk .u32 wr gq 77 Q
 bel:Below w.heap.size w wr
section
variable {wr w:World} {B gu Lu cu gv cv n gq:Nat} {v U Q:List Int}
theorem RW.drewN(h:RW wr w B gu Lu cu gv cv n gq v U Q)(k:Nat):RW (wr.drewN k) w B gu Lu cu gv cv n gq v U Q:=⟨h.ku,h.kv,h.kq,Below.drewN' h.bel k⟩
theorem RW.setU(h:RW wr w B gu Lu cu gv cv n gq v U Q)(n1:gv≠gu)(n2:gq≠gu)(hw:w.heap.size≤gu)(i:Nat)(x:Int):RW (wr.setCell ⟨gu,i,none⟩ (.int .u32 x)) w B gu Lu cu gv cv n gq v (U.set i x) Q:=
 ⟨h.ku.set i x,h.kv.setCell _ (fun a ha=>by injection ha with ha;subst ha;exact n1),h.kq.far (p:=⟨gu,i,none⟩) n2 _,h.bel.setCell (p:=⟨gu,i,none⟩) hw _⟩
theorem RW.setQ(h:RW wr w B gu Lu cu gv cv n gq v U Q)(n3:gv≠gq)(n2:gq≠gu)(hw:w.heap.size≤gq)(i:Nat)(x:Int):RW (wr.setCell ⟨gq,i,none⟩ (.int .u32 x)) w B gu Lu cu gv cv n gq v U (Q.set i x):=
 ⟨h.ku.far (p:=⟨gq,i,none⟩) _ (fun a ha=>by injection ha with ha;subst ha;exact fun h=>n2 h.symm),h.kv.setCell _ (fun a ha=>by injection ha with ha;subst ha;exact n3),h.kq.set i x,h.bel.setCell (p:=⟨gq,i,none⟩) hw _⟩
theorem RW.ucell(h:RW wr w B gu Lu cu gv cv n gq v U Q){i:Nat}(hi:i<Lu):wr.cell? ⟨gu,i,none⟩=some (.int .u32 (U[i]?.getD 0)):=h.ku.cell hi
theorem RW.vcell(h:RW wr w B gu Lu cu gv cv n gq v U Q){i:Nat}(hi:i<n):wr.cell? ⟨gv,i,none⟩=some (.int .u32 (v[i]?.getD 0)):=by
 obtain⟨b,o,e,_,hc⟩:=h.kv.pos hi
 cases e
 simpa using hc
end
set_option maxRecDepth 1000000 in
theorem rDivMod_one(A B:Option Addr)(n c m d:Nat)(a b:List Int)(w:World)(ha:SlR .u32 w A n c a)(hb:SlR .u32 w B m d b)(da:Dig a)(db:Dig b)(hn:n≤1000000000)(hm:m≤1000000000)(hz:0<Nt.val b)(hz1:Nt.val b<4294967296):
  qyc 145 #[.slice A n c,.slice B m d] w fun e w'=>DivMF w w' e (Nt.val a) (Nt.val b):=by
 have lx:Hid ((digits (Nt.val a).toNat).length≤n):=by rw[←zxs da,←ha.1];exact zyh a
 have a0:=zxc da
 go_enter Tryz.func145,Tryz.ntmps145
 go_wp2_with fail
 refine(zxf _ _ _ _ _ ha da xq).mono ?_;rintro e w1 ⟨A1,N,c1,rfl,f1,aa⟩
 go_wp2_with fail
 refine(zxf _ _ _ _ _ (hb.below aa) db xq).mono ?_;rintro e w2 ⟨A2,M,c2,rfl,f2,ab⟩
 have hdy:digits (Nt.val b).toNat=[Nt.val b]:=by
  rw[digits,if_neg xq,digits,if_pos xq]
  congr 1
  omega
 obtain rfl:M=1:=by have:=f2.1;rw[hdy] at this;simpa using this
 have hy:=f2.nat.2.1;have hx:=f1.nat.2.1.below ab;rw[hdy] at hy;obtain⟨g,o,rfl,hg,hc⟩:=hy.pos (i:=0) xq
 simp only[List.getElem?_cons_zero,Option.getD_some,Nat.add_zero] at hc
 have hN:N≤1000000000:=by have:=f1.1;have:=lx.out;omega
 have hB:Hid (Below w.heap.size w w2):=aa.trans (ab.mono aa.size);obtain⟨y,hyy⟩:∃y,y=Nt.val b:=⟨_,rfl⟩
 have Hyy:=Lib.hid hyy;rw[←hyy] at hc hz hz1;clear f1 f2 aa ab ha hb hy hdy hyy
 go_wp2_with fail
 refine(rsmall_any _ _ _ _ y _ hx (zyj _) hz hz1 hN).mono ?_;rintro e w3 ⟨A3,n3,c3,rfl,f3,ac⟩;rw[zyi,Int.toNat_of_nonneg a0] at f3;rw[zyi,Int.toNat_of_nonneg a0];have F3:=Lib.hid f3;have r0:0≤Nt.val a%y:=Int.emod_nonneg _ xq;have r1:Nt.val a%y<4294967296:=by have:=Int.emod_lt_of_pos (Nt.val a) hz;omega
 have Hb3:=Lib.hid ac;clear f3 ac hx hc;obtain⟨r,hr⟩:∃r,r=Nt.val a%y:=⟨_,rfl⟩
 have Hr:=Lib.hid hr;rw[←hr] at r0 r1 ⊢;clear hr;have hnew:Hid (SlR .u32 (w3.alloc (.cells #[.int .u32 r] 77)) (some ⟨w3.heap.size,0,none⟩) 1 1 [r]):=(KBlk.new w3 77 [r]).slr_all rfl qyl xw
 go_wp2_with fail
 refine(zxf _ _ _ _ _ hnew.out (Dig.cons ⟨r0,r1⟩ Dig.nil) xq).mono ?_;rintro e w4 ⟨A4,n4,c4,rfl,f4,ad⟩;have F4:=Lib.hid f4;have Hb4:=Lib.hid ad;clear f4 ad
 go_wp2
 go_ret3
 have ae:Below w.heap.size w w3:=hB.out.trans (Hb3.out.mono hB.out.size);have hBa:=ae.alloc ae.size (.cells #[.int .u32 r] 77);have f4:=F4.out.nat;have e4:Nt.val [r]=Nt.val a%Nt.val b:=by rw[←Hyy.out,←Hr.out];simp[Nt.val]
 rw[e4] at f4;have f3:=F3.out;rw[Hyy.out] at f3;refine⟨A3,n3,c3,A4,n4,c4,rfl,(f3.mono hB.out.size).below ?_,f4.mono hBa.size,hBa.trans (Hb4.out.mono hBa.size)⟩;exact((Below.refl _ _).alloc qyl _).trans (Hb4.out.mono (by simp))
set_option maxRecDepth 1000000 in
theorem rDivMod_lt(A B:Option Addr)(n c m d:Nat)(a b:List Int)(w:World)(ha:SlR .u32 w A n c a)(hb:SlR .u32 w B m d b)(da:Dig a)(db:Dig b)(hn:n≤1000000000)(hm:m≤1000000000)(hz:4294967296≤Nt.val b)(hlt:Nt.val a<Nt.val b):
  qyc 145 #[.slice A n c,.slice B m d] w fun e w'=>DivMF w w' e (Nt.val a) (Nt.val b):=by
 have lx:Hid ((digits (Nt.val a).toNat).length≤n):=by rw[←zxs da,←ha.1];exact zyh a
 have ly:Hid ((digits (Nt.val b).toNat).length≤m):=by rw[←zxs db,←hb.1];exact zyh b
 have a0:=zxc da;have hcmp:cmpS (Nt.val a) (Nt.val b)=-1:=by unfold cmpS;rw[if_pos hlt]
 have Hc:=Lib.hid hcmp;have Hlt:=Lib.hid hlt;clear hcmp hlt
 go_enter Tryz.func145,Tryz.ntmps145
 go_wp2_with fail
 refine(zxf _ _ _ _ _ ha da xq).mono ?_;rintro e w1 ⟨A1,N,c1,rfl,f1,aa⟩
 go_wp2_with fail
 refine(zxf _ _ _ _ _ (hb.below aa) db xq).mono ?_;rintro e w2 ⟨A2,M,c2,rfl,f2,ab⟩
 have hM2:1<M:=by
  have:=digits_length_gt (v:=(Nt.val b).toNat) (n:=1) (by simp[pw];omega);rw[f2.1];exact this
 have hN:N≤1000000000:=by have:=f1.1;have:=lx.out;omega
 have hM:M≤1000000000:=by have:=f2.1;have:=ly.out;omega
 have F1:=Lib.hid f1;have hy:=f2.nat.2.1;have hx:=f1.nat.2.1.below ab;have h0:((M:Int)==0)=false:=by rw[beq_eq_false_iff_ne];omega
 have h1:((M:Int)==1)=false:=by rw[beq_eq_false_iff_ne];omega
 have Hb1:=Lib.hid aa;have Hb2:=Lib.hid ab;clear f1 f2 ha hb aa ab
 go_wp2_with fail
 refine(rCompare_any _ _ _ _ _ _ _ _ _ hx hy (zyj _) (zyj _) xq xq).mono ?_;rintro e w3 ⟨rfl,ac⟩;rw[zyi,zyi,Int.toNat_of_nonneg a0,Int.toNat_of_nonneg xq,Hc.out];have Hb3:=Lib.hid ac;clear ac hx hy
 go_wp2
 go_ret3
 have ad:Below w.heap.size w w2:=Hb1.out.trans (Hb2.out.mono Hb1.out.size);have e1:Nt.val a/Nt.val b=0:=Int.ediv_eq_zero_of_lt a0 Hlt.out;have e2:Nt.val a%Nt.val b=Nt.val a:=Int.emod_eq_of_lt a0 Hlt.out;refine⟨none,0,0,A1,N,c1,rfl,?_,?_,ad.trans (Hb3.out.mono ad.size)⟩
 ·rw[e1];exact⟨by simp[zxa],by simp[zxa];exact SlR.nil _ _ _ (Nat.zero_le _),fun h=>absurd h xq⟩
 rw[e2];exact(F1.out.nat.below Hb2.out).below Hb3.out
theorem rdiv_fin{wr w:World}{B gu Lu cu gv cv n gq N z:Nat}{a b v U Q:List Int}(hR:RW wr w B gu Lu cu gv cv n gq v U Q)(hD:DivL 0 N (Nt.val a*2^z) (Nt.val v) U Q)(hv:v.length=N+2)(dv:Dig v)(ev:Nt.val v=Nt.val b*2^z):
  ∀(w9 w10:World) (A9:Option Addr) (n9 c9:Nat) (A10:Option Addr) (n10 c10:Nat),OwnF wr w9 A9 n9 c9 (Nt.val Q).toNat→Below wr.heap.size wr w9→OwnF w9 w10 A10 n10 c10 (Nt.val (U.take (N+2))/2^z).toNat→Below w9.heap.size w9 w10 →
   DivMF w w10 (.returned (.tuple #[.slice A9 n9 c9,.slice A10 n10 c10,.int .i64 0])) (Nt.val a) (Nt.val b):=by
 intro w9 w10 A9 n9 c9 A10 n10 c10 f9 hb9 f10 hb10;have hlow:=hD.low;have hsum:=hD.sum
 simp only[List.drop_zero,pw,Int.mul_one] at hlow hsum
 have hU0:=zxc hD.dU;have e1:Nt.val (U.take (N+2))=Nt.val U:=(val_low hD.dU (n:=N+2) (by have:=val_lt dv;rw[hv] at this;omega)).2;obtain⟨q1,q2⟩:=div_end (a:=Nt.val a) (b:=Nt.val b) (Q:=Nt.val Q) (U:=Nt.val U) (p2_pos z) (by rw[hsum,ev]) hU0 xq;rw[e1,←q2] at f10;rw[←q1] at f9;have hs1:=hR.bel.size;have hs2:=hb9.size;have hB:Below w.heap.size w w9:=hR.bel.trans (hb9.mono hs1);exact⟨A9,n9,c9,A10,n10,c10,rfl,(f9.nat.mono hs1).below hb10,f10.nat.mono xq,hB.trans (hb10.mono hB.size)⟩
set_option maxRecDepth 1000000 in
theorem rDivMod_long(A B:Option Addr)(n c m d:Nat)(a b:List Int)(w:World)(ha:SlR .u32 w A n c a)(hb:SlR .u32 w B m d b)(da:Dig a)(db:Dig b)(hn:n≤500000000)(hm:m≤500000000)(hz:4294967296≤Nt.val b)(hge:Nt.val b≤Nt.val a):
  qyc 145 #[.slice A n c,.slice B m d] w fun e w'=>DivMF w w' e (Nt.val a) (Nt.val b):=by
 have lx:Hid ((digits (Nt.val a).toNat).length≤n):=by rw[←zxs da,←ha.1];exact zyh a
 have ly:Hid ((digits (Nt.val b).toNat).length≤m):=by rw[←zxs db,←hb.1];exact zyh b
 have a0:=zxc da;obtain⟨X,hX⟩:∃X:Nat,X=(Nt.val a).toNat:=⟨_,rfl⟩
 obtain⟨Y,hY⟩:∃Y:Nat,Y=(Nt.val b).toNat:=⟨_,rfl⟩
 have HX:Hid (Nt.val a=X):=by show _=_;omega
 have HY:Hid (Nt.val b=Y):=by show _=_;omega
 have HXY:Hid (Y≤X):=by show _≤_;omega
 have hcmp:0≤cmpS X Y:=by unfold cmpS;rw[if_neg xq];split<;>omega
 have HXn:=Lib.hid hX;have HYn:=Lib.hid hY;have a4:Hid (1<(digits Y).length):=digits_length_gt (v:=Y) (n:=1) (by simp[pw];omega);clear hX hY hz hge
 go_enter Tryz.func145,Tryz.ntmps145
 go_wp2_with fail
 refine(zxf _ _ _ _ _ ha da xq).mono ?_;rintro e w1 ⟨A1,N1,c1,rfl,f1,aw⟩
 go_wp2_with fail
 refine(zxf _ _ _ _ _ (hb.below aw) db xq).mono ?_;rintro e w2 ⟨A2,M2,c2,rfl,f2,aK⟩;rw[←HXn.out] at f1 lx;rw[←HYn.out] at f2 ly;have bm:N1≤500000000:=by have:=f1.1;have:=lx.out;omega
 have hM2:M2≤500000000:=by have:=f2.1;have:=ly.out;omega
 have hMN:Hid (M2≤N1):=by show _≤_;rw[f1.1,f2.1];exact zxk HXY.out
 obtain⟨N,hNN⟩:∃N,M2=N+2:=⟨M2-2,by have:=f2.1;have:=a4.out;omega⟩
 subst hNN;have hx:=Lib.hid (f1.nat.2.1.below aK);have hy:=Lib.hid f2.nat.2.1;have e1:=Lib.hid f1.1;have e2:=Lib.hid f2.1;have aA:Hid (Below w.heap.size w w2):=aw.trans (aK.mono aw.size);have h0:((N:Int)+2==0)=false:=by rw[beq_eq_false_iff_ne];omega
 have h1:((N:Int)+2==1)=false:=by rw[beq_eq_false_iff_ne];omega
 clear f1 f2 ha hb aw aK da db lx ly
 go_wp2_with fail
 refine(rCompare_any _ _ _ _ _ _ _ _ _ hx.out hy.out (zyj _) (zyj _) xq xq).mono ?_;rintro e w3 ⟨rfl,aq⟩;rw[zyi,zyi];have hx3:=Lib.hid (hx.out.below aq);have hy3:=Lib.hid (hy.out.below aq);have aF:Hid (Below w.heap.size w w3):=aA.out.trans (aq.mono aA.out.size);obtain⟨y,hyy⟩:∃y:Nat,(y:Int)=(digits Y)[N+1]?.getD 0:=⟨((digits Y)[N+1]?.getD 0).toNat,by have:=(zyj Y).at (N+1);omega⟩
 have hyb:=(zyj Y).at (N+1);have hyn:=norm_last (k:=N+1) (zxm Y) e2.out.symm;rw[←hyy] at hyb hyn;obtain⟨z,hz1,aV,aZ,aN⟩:=lz2 (y:=y) xq xq;have Hz1:=Lib.hid hz1;have hvn:=Lib.hid (vnorm e2.out.symm hyy aZ aN);obtain⟨gb,ob,rfl,hgb,hcb⟩:=hy3.out.pos (i:=N+1) xq;have hcm:=hy3.out.2.1;have hcm2:=hy3.out.2.2.1
 unfold maxLen at hcm2
 have hyl:Hid (SlR .u32 w3 (some ⟨gb,ob+(N+1),none⟩) 1 (c2-(N+1)) [(y:Int)]):=by
  refine⟨rfl,by omega,by unfold maxLen;omega,fun _=>⟨gb,ob+(N+1),rfl,hgb,fun i hi=>?_⟩⟩;obtain rfl:i=0:=by omega
  rw[Nat.add_zero,hcb,←hyy];rfl
 have hN1':(N:Int)+2-1=(N:Int)+1:=by omega
 obtain⟨s,hs⟩:∃s,s=cmpS X Y:=⟨_,rfl⟩
 rw[←hs] at hcmp ⊢;clear hz1 aZ aN hyy aq hx hy aA hcb hs
 go_wp2_with fail
 refine(rBitLen_any _ _ _ _ _ hyl.out (Dig.cons hyb Dig.nil) xq).mono ?_;rintro e w4 ⟨rfl,ao⟩;have hvy:(Nt.val [(y:Int)]).toNat=y:=by simp[Nt.val]
 rw[hvy];have hz1:=Hz1.out;have bi:(0:Int)≤bitl y:=by omega
 have a9:(bitl y:Int)≤32:=by omega
 have hsd:decide (s<0)=false:=by simp;omega
 have hx4:=Lib.hid (hx3.out.below ao);have hy4:=Lib.hid (hy3.out.below ao);have ar:Hid (Below w.heap.size w w4):=aF.out.trans (ao.mono aF.out.size);clear hvy hyl ao hx3 hy3 aF
 go_wp2_with fail
 refine(rShift_pos _ _ _ z _ _ hx4.out (zyj _) xq xq).mono ?_;rintro e w5 ⟨A5,L5,c5,rfl,f5,ax⟩;rw[zyi] at f5
 have eX:((X:Int)*2^z).toNat=X*2^z:=by
  have:((X*2^z:Nat):Int)=(X:Int)*2^z:=by rw[Int.natCast_mul,Int.natCast_pow];rfl
  omega
 have eY:((Y:Int)*2^z).toNat=Y*2^z:=by
  have:((Y*2^z:Nat):Int)=(Y:Int)*2^z:=by rw[Int.natCast_mul,Int.natCast_pow];rfl
  omega
 rw[eX] at f5;have F5:=Lib.hid f5;have HW45:=Lib.hid ax.size;have hy5:=Lib.hid (hy4.out.below ax);have an:Hid (Below w.heap.size w w5):=ar.out.trans (ax.mono ar.out.size);have EY:=Lib.hid eY;clear eX eY f5 ax hy4 hx4
 go_wp2_with fail
 refine(rShift_pos _ _ _ z _ _ hy5.out (zyj _) xq xq).mono ?_;rintro e w6 ⟨A6,L6,c6,rfl,f6,av⟩;rw[zyi,EY.out] at f6
 have aO:Hid (N1≤L5):=by
  show _≤_;rw[F5.out.1,e1.out];exact zxk (Nat.le_mul_of_pos_right _ (Nat.pow_pos xq))
 have hL5':Hid (L5≤N1+1):=by
  show _≤_;rw[F5.out.1]
  apply digits_length_le
  have hv:=val_lt (zyj X);rw[zyi,←e1.out] at hv;have hp:=p2_le aV;have h3:(X:Int)*2^z≤(X:Int)*2147483648:=Int.mul_le_mul_of_nonneg_left hp xq;rw[Int.natCast_mul,Int.natCast_pow,pw];have e:((2:Nat):Int)=2:=rfl;rw[e]
  omega
 have be:L6=N+2:=by rw[f6.1];exact hvn.out.1
 subst be;obtain⟨gv,rfl,bl,ba⟩:=f6.2.pos xq;have hv6:=Lib.hid f6.nat.2.1;have hu6:=Lib.hid (F5.out.2.below av);have aB:Hid (Below w.heap.size w w6):=an.out.trans (av.mono an.out.size);have aG:w.heap.size≤w4.heap.size:=ar.out.size
 have bb:w4.heap.size≤w6.heap.size:=by
  have h5:=(F5.out.2.blk)
  have:=an.out.size;have:=av.size;have h45:w4.heap.size≤w5.heap.size:=HW45.out
  omega
 clear f6 av hy5;have hl1:=aO.out;have hl2:=hL5'.out;have hmn:=hMN.out
 go_wp2_with (at_builtin;refine wpList_appendG _ rfl (.tmp 67) (.tmp 68) _ rfl 77 .u32 4 Tryz.underlying31 zxj w4.heap.size A5 L5 c5 (digits (X*2^z)) rfl ?own ⟨w6.heap.size,0,none⟩ 1 1 [0] rfl ?slr ?h63 ?hby ?hbase ?_)
 case own=>exact hu6.out.below ((Below.refl _ _).alloc qyl _)
 case slr=>exact(KBlk.new w6 77 [0]).slr_all rfl qyl xw
 case h63=>unfold maxLen;omega
 case hby=>omega
 case hbase=>simp;omega
 intro A7 c7 w7 az aL am ah ak;obtain⟨gu,rfl,a7,bq⟩:=az.pos xq;have hU7:=Lib.hid az;have hbk5:=hu6.out.blk
 have hguv:gu≠gv:=by
  rcases ah _ rfl with ⟨p0,hp0,hp1⟩|h
  ·have h1:=F5.out.2.blk p0 hp0;have h2:gu=p0.block:=hp1
   omega
  have h2:gu=w6.heap.size+1:=h
  omega
 have aP:Hid (SlR .u32 w7 (some ⟨gv,0,none⟩) (N+2) c6 (digits (Y*2^z))):=by
  refine(hv6.out.alloc _).blk (am gv xq ?_) (by simp;exact ak);intro p hp h;have:=F5.out.2.blk p hp
  omega
 have ap:Hid (Below w.heap.size w w7):=(aB.out.alloc aB.out.size _).trans (aL.mono aG);have hsz7':gv<w7.heap.size:=by omega
 have hgw:w.heap.size≤gu:=by omega
 have hgvw:w.heap.size≤gv:=by have:=an.out.size;omega
 have hLN:¬(L5:Int)+1<(N1:Int)+1:=by omega
 have ai:Hid (Nt.val (digits (X*2^z)++[0])=Nt.val a*2^z):=by
  show _=_;rw[snoc_val,zyi,HX.out,Int.natCast_mul,Int.natCast_pow]
  simp
 have aD:Hid (Nt.val (digits (Y*2^z))=Nt.val b*2^z):=by
  show _=_;rw[zyi,HY.out,Int.natCast_mul,Int.natCast_pow]
  rfl
 obtain⟨M,hM⟩:∃M,L5+1=M+(N+2):=⟨L5+1-(N+2),by omega⟩
 have HM:=Lib.hid hM;have hMb:M+(N+2)≤L5+1∧L5+1≤M+(N+2):=by omega
 have hlow:Hid (Nt.val ((digits (X*2^z)++[0]).drop M)<Nt.val (digits (Y*2^z))):=ulow (zyj _) (by rw[←F5.out.1];exact hM) (zyj _) hvn.out.1 hvn.out.2;have hdU:Hid (Dig (digits (X*2^z)++[0])):=(zyj _).snoc xq;have hdv:=Lib.hid (zyj (Y*2^z));clear az aL am ak ah hbk5 hu6 hv6 aB hM hz1 EY aO hL5' hMN e1 HXY ar an HW45;generalize digits (X*2^z)++[0]=U0 at *;generalize digits (Y*2^z)=v at *
 go_wp2
 go_loopw [10] (fun bc wr=>bc=.slice (some ⟨gu,0,none⟩) (L5+1) c7∧wr=w7) (fun _ _=>0)
 case atStart=>exact⟨rfl,rfl⟩
 case round=>
  obtain⟨rfl,rfl⟩:=hrel
  go_wp2_with (at_make;refine zxg _ rfl (.tmp 84) (.tmp 84) _ rfl 77 .u32 4 Tryz.underlying31 zxj _ _ _ _ M rfl rfl ?L ?C ?b2 ?b3 ?_)
  case L=>show _=_;omega
  case C=>show _=_;omega
  case b2=>omega
  case b3=>unfold maxLen;omega
  intro w8 aX au bj;have hR:Hid (RW w8 w w4.heap.size gu (L5+1) c7 gv c6 (N+2) wr.heap.size v U0 (List.replicate M 0)):=⟨hU7.out.below au,aP.out.below au,aX,ap.out.trans (au.mono ap.out.size)⟩
  have hD:Hid (DivL M N (Nt.val a*2^z) (Nt.val v) U0 (List.replicate M 0)):=DivL.start (a:=[]) hdU.out (Dig.repl _) (by simp) ai.out.symm hlow.out;obtain⟨gq,hgq⟩:∃g,g=wr.heap.size:=⟨_,rfl⟩
  have ab:gq≠gu:=by omega
  have aR:gv≠gq:=by omega
  have aW:w.heap.size≤gq:=by have:=ap.out.size;omega
  rw[←hgq] at hR ⊢;clear aX au bj hgq hU7 aP ap ai hlow hdU
  go_wp2
  obtain⟨wo,rfl⟩:∃wo:World,wo=wr:=⟨_,rfl⟩
  go_loopw [14] (fun iv wr=>∃(i:Nat) (U Q:List Int),i≤M∧iv=.int .i64 ((i:Int)-1)∧Hid (RW wr w w4.heap.size gu (L5+1) c7 gv c6 (N+2) gq v U Q)∧Hid (Q.length=M)∧Hid (DivL i N (Nt.val a*2^z) (Nt.val v) U Q)) (fun iv _=>(intOf iv+1).toNat)
  case atStart=>exact⟨M,_,_,by omega,by congr 1;omega,hR,by simp[Hid],hD⟩
  case round=>
   obtain⟨i,U,Q,hi,rfl,hR,hQ,hD⟩:=hrel
   rcases i with _|j
   ·have hsq:SlR .u32 wr (some ⟨gq,0,none⟩) M M Q:=hR.out.kq.slr_all hQ.out qyl yv;have hcu:=hR.out.ku.slr.2.1;have hcu2:=hR.out.ku.slr.2.2.1;have hsu:SlR .u32 wr (some ⟨gu,0,none⟩) (N+2) c7 (U.take (N+2)):=hR.out.ku.slr.upto xq;have hsud:SlR .u32 wr.drew (some ⟨gu,0,none⟩) (N+2) c7 (U.take (N+2)):=hsu;have Hdu:=Lib.hid (hD.out.dU.take (N+2));have Hdq:=Lib.hid hD.out.dQ;have bm:(N:Int)+2≤c7:=by omega
    have hfin:=Lib.hid (rdiv_fin (b:=b) hR.out hD.out hvn.out.1 hdv.out aD.out);have bn:c7≤9223372036854775807:=by unfold maxLen at hcu2;omega
    clear hR hQ hD
    go_wp2
    go_region_with (first
     | (go_at_call 89;refine(zxf (some ⟨gq,0,none⟩) M M Q _ ?_ Hdq.out xq).mono ?_;exact hsq;rintro e w9 ⟨A9,n9,c9,rfl,f9,ae⟩)
     | (go_at_call 178;refine(rShift_down _ _ _ z _ _ ?_ Hdu.out xq aV).mono ?_;(first|exact hsud.below ae|exact hsu);rintro e a8 ⟨a5,bs,br,rfl,aS,ag⟩))
    all_goals
     have HF:=Lib.hid (hfin.out w9 a8 A9 n9 c9 a5 bs br f9 ⟨ae.os,ae.tape,ae.output,ae.size,ae.block⟩ aS ag);clear f9 ae aS ag
     go_wp2
     go_ret3
     exact HF.out
   have aY:((j+1:Nat):Int)-1=(j:Int):=by omega
   rw[aY];clear aY;have hj:j+(N+2)+1≤L5+1:=by omega
   have lU:=Lib.hid hR.out.ku.1;have Hj:Hid (j+(N+2)+1≤U.length):=by show _≤_;rw[lU.out];exact hj
   have HU:=Lib.hid (hD.out.pre (by have:=lU.out;omega) hvn.out.1 hdv.out);have dU:=Lib.hid hD.out.dU;have c1:=hR.out.ucell (i:=j+(N+2)) xq;have c2':=hR.out.ucell (i:=j+(N+1)) xq;have c3:=hR.out.ucell (i:=j+N) xq;have d1:=hR.out.vcell (i:=N+1) xq;have d2:=hR.out.vcell (i:=N) xq;have hv1:=hdv.out.at (N+1);have hv2:=hdv.out.at N;have hu0:=dU.out.at (j+(N+2));have hu1:=dU.out.at (j+(N+1));have hu2:=dU.out.at (j+N);have htop:=hvn.out.2;obtain⟨v1,aI⟩:∃x,x=v[N+1]?.getD 0:=⟨_,rfl⟩
   obtain⟨v2,aE⟩:∃x,x=v[N]?.getD 0:=⟨_,rfl⟩
   obtain⟨u0,aH⟩:∃x,x=U[j+(N+2)]?.getD 0:=⟨_,rfl⟩
   obtain⟨u1,aJ⟩:∃x,x=U[j+(N+1)]?.getD 0:=⟨_,rfl⟩
   obtain⟨u2,ay⟩:∃x,x=U[j+N]?.getD 0:=⟨_,rfl⟩
   rw[←aI] at d1 hv1 htop;rw[←aE] at d2 hv2;rw[←aH] at c1 hu0;rw[←aJ] at c2' hu1;rw[←ay] at c3 hu2;have Ev1:=Lib.hid aI;have Ev2:=Lib.hid aE;have Eu0:=Lib.hid aH;have Eu1:=Lib.hid aJ;have Eu2:=Lib.hid ay;have bk:(v1==0)=false:=by rw[beq_eq_false_iff_ne];omega
   have or0:=or_top hu0.1 hu0.2 hu1.1 hu1.2;have hRd:Hid (∀k,RW (wr.drewN k) w w4.heap.size gu (L5+1) c7 gv c6 (N+2) gq v U Q):=fun k=>hR.out.drewN k;have ad:IntKind.i64.wrap ((j:Int)+((N:Int)+2))=(j:Int)+((N:Int)+2):=IntWalk.i64_in _ xq;have ac:IntKind.i64.wrap ((j:Int)+((N:Int)+2)-1)=(j:Int)+((N:Int)+1):=by rw[show(j:Int)+((N:Int)+2)-1=(j:Int)+((N:Int)+1) by omega];exact IntWalk.i64_in _ xq
   have af:((j:Int)+((N:Int)+2)).toNat=j+(N+2):=by omega
   have a6:((j:Int)+((N:Int)+1)).toNat=j+(N+1):=by omega
   clear aI aE aH aJ ay
   go_wp2
   go_quiet (fail)
   try rw[or0]
   obtain⟨top,aa⟩:∃top,top=u0*4294967296+u1:=⟨_,rfl⟩
   have Htop:=Lib.hid aa;have t0:0≤top:=by omega
   have t1:top<18446744073709551616:=by omega
   rw[←aa];clear aa or0 ad ac af a6 c1 c2' c3 d1 d2 hR;have hR1:=Lib.hid (hRd.out nq);clear hRd;generalize wr.drewN nq=wa at *;have d1:wa.cell? ⟨gv,N+1,none⟩=some (.int .u32 v1):=by rw[Ev1.out];exact hR1.out.vcell xq
   have hT:Hid (DivFacts j N U v top u2 v1 v2):=div_facts hdv.out dU.out hvn.out.1 Hj.out Ev1.out Ev2.out Eu0.out Eu1.out Eu2.out Htop.out htop HU.out;obtain⟨T,hTd⟩:∃T,T=valTo (U.drop j) (N+3)/Nt.val v:=⟨_,rfl⟩
   have HTd:=Lib.hid hTd;clear hTd
   have Hst:Hid (Guess T top v1 v2 u2 (top/v1) (top%v1)):=by
    have h:=hT.out;exact Guess.start t0 xq (by rw[HTd.out];exact h.t0) (by rw[HTd.out];exact h.ta) xq xq
   have b0:0≤top/v1:=Int.ediv_nonneg t0 xq;have b1:top/v1≤8589934592:=Int.ediv_le_of_le_mul xq xq;have b2:0≤top%v1:=Int.emod_nonneg _ xq;have b3:top%v1<4294967296:=by have:=Int.emod_lt_of_pos top (b:=v1) xq;omega
   go_upto_block 4 with (fail)
   go_cut [16] (fun al wx=>∃q:Int,al=.int .u64 q∧0≤q∧q<4294967296∧Hid (Nt.Good T top v1 v2 u2 q)∧Hid (RW wx w w4.heap.size gu (L5+1) c7 gv c6 (N+2) gq v U Q))
   case first=>
    go_wp2
    obtain⟨a1,rfl⟩:∃a1:World,a1=wr:=⟨_,rfl⟩
    go_loopw [16,17] (fun al bg wr=>∃g r:Int,al=.int .u64 g∧bg=.int .u64 r∧0≤g∧g≤8589934592∧0≤r∧r<4294967296∧Hid (Guess T top v1 v2 u2 g r)∧Hid (RW wr w w4.heap.size gu (L5+1) c7 gv c6 (N+2) gq v U Q)) (fun al _ _=>(intOf al).toNat)
    case atStart=>exact⟨_,_,rfl,rfl,b0,b1,b2,b3,Hst,hR1⟩
    case round=>
     obtain⟨g,r,rfl,rfl,g0,g1,r0,r1,hg,hRg⟩:=hrel;clear b0 b1 b2 b3 Hst hR1 d1;have k1:wr.cell? ⟨gv,N+1,none⟩=some (.int .u32 v1):=by rw[Ev1.out];exact hRg.out.vcell xq
     have k2:wr.cell? ⟨gv,N,none⟩=some (.int .u32 v2):=by rw[Ev2.out];exact hRg.out.vcell xq
     have k3:wr.cell? ⟨gu,j+N,none⟩=some (.int .u32 u2):=by rw[Eu2.out];exact hRg.out.ucell xq
     have ad:IntKind.i64.wrap ((j:Int)+((N:Int)+2))=(j:Int)+((N:Int)+2):=IntWalk.i64_in _ xq;have ac:IntKind.i64.wrap ((j:Int)+((N:Int)+2)-2)=(j:Int)+(N:Int):=by rw[show(j:Int)+((N:Int)+2)-2=(j:Int)+(N:Int) by omega];exact IntWalk.i64_in _ xq
     have af:((j:Int)+(N:Int)).toNat=j+N:=by omega
     by_cases hq:4294967296≤g
     ·skip
      have hn':Hid (Guess T top v1 v2 u2 (g-1) (r+v1)):=hg.out.next (by rw[HTd.out];exact hT.out.t0) (by rw[HTd.out];exact hT.out.t1) (by rw[HTd.out];exact hT.out.ta) xq xq (.inl hq);have gp:1≤g:=by have:=hn'.out.q0;omega
      have hRx:Hid (∀k,RW (wr.drewN k) w w4.heap.size gu (L5+1) c7 gv c6 (N+2) gq v U Q):=fun k=>hRg.out.drewN k;have aj:Hid (∀k,(wr.drewN k).cell? ⟨gv,N+1,none⟩=some (.int .u32 v1)):=fun _=>k1;clear hg hRg
      go_wp2
      go_quiet (fail)
      have hR3:=Lib.hid (hRx.out nq);have e3:=aj.out nq;generalize wr.drewN nq=wq at *;clear hRx aj k1 k2 k3 ad ac af
      by_cases hr:4294967296≤r+v1
      ·have hG:Hid (Nt.Good T top v1 v2 u2 (g-1)):=hn'.out.broke hT.out.tb hr xq xq xq xq
       go_wp2
       go_meet
       exact⟨g-1,rfl,by omega,hG.out.q1,hG,hR3⟩
      go_wp2
      go_roundw
      case rel=>first|exact⟨g-1,r+v1,rfl,rfl,hn'.out.q0,by omega,by omega,by omega,hn',hR3⟩|exact⟨by omega,by omega⟩|exact⟨by omega,by omega,by omega⟩|omega
      case measure=>simp[intOf];omega
     by_cases ht:r*4294967296+u2<g*v2
     ·skip
      have hn':Hid (Guess T top v1 v2 u2 (g-1) (r+v1)):=hg.out.next (by rw[HTd.out];exact hT.out.t0) (by rw[HTd.out];exact hT.out.t1) (by rw[HTd.out];exact hT.out.ta) xq xq (.inr ht);have gp:1≤g:=by have:=hn'.out.q0;omega
      have or1:=or_top r0 r1 hu2.1 hu2.2;have bh:decide (4294967296≤g)=false:=by simpa using hq
      have mb:=mul_bd32 (x:=g) (y:=v2) ⟨g0,by omega⟩ hv2;have htd:decide (bits BinOp.or IntKind.u64 (r*4294967296) u2<g*v2)=true:=by rw[or1];simpa using ht
      have aQ:g<4294967296:=by omega
      clear or1;have hRx:Hid (∀k,RW (wr.drewN k) w w4.heap.size gu (L5+1) c7 gv c6 (N+2) gq v U Q):=fun k=>hRg.out.drewN k;have aj:Hid (∀k,(wr.drewN k).cell? ⟨gv,N+1,none⟩=some (.int .u32 v1)):=fun _=>k1;clear hg hRg
      go_wp2
      go_quiet (fail)
      have hR3:=Lib.hid (hRx.out nq);have e3:=aj.out nq;generalize wr.drewN nq=wq at *;clear hRx aj k1 k2 k3 ad ac af
      by_cases hr:4294967296≤r+v1
      ·have hG:Hid (Nt.Good T top v1 v2 u2 (g-1)):=hn'.out.broke hT.out.tb hr xq xq xq xq
       go_wp2
       go_meet
       exact⟨g-1,rfl,by omega,hG.out.q1,hG,hR3⟩
      go_wp2
      go_roundw
      case rel=>first|exact⟨g-1,r+v1,rfl,rfl,hn'.out.q0,by omega,by omega,by omega,hn',hR3⟩|exact⟨by omega,by omega⟩|exact⟨by omega,by omega,by omega⟩|omega
      case measure=>simp[intOf];omega
     have hG:Hid (Nt.Good T top v1 v2 u2 g):=hg.out.good xq xq;have or1:=or_top r0 r1 hu2.1 hu2.2;have aQ:g<4294967296:=by omega
     have bh:decide (4294967296≤g)=false:=by simpa using hq
     have mb:=mul_bd32 (x:=g) (y:=v2) ⟨g0,by omega⟩ hv2;have htd:decide (bits BinOp.or IntKind.u64 (r*4294967296) u2<g*v2)=false:=by rw[or1];simpa using ht
     have hRx:Hid (∀k,RW (wr.drewN k) w w4.heap.size gu (L5+1) c7 gv c6 (N+2) gq v U Q):=fun k=>hRg.out.drewN k;clear hg hRg or1
     go_wp2
     go_quiet (fail)
     have hR3:=Lib.hid (hRx.out nq);clear hRx ad ac af
     go_wp2
     go_meet
     exact⟨g,rfl,g0,aQ,hG,hR3⟩
   case rest=>
    obtain⟨q,rfl,q0,q1,hG,a3⟩:=hcut;clear b0 b1 b2 b3 Hst hR1 d1
    go_wp2
    obtain⟨a2,rfl⟩:∃a2:World,a2=wr:=⟨_,rfl⟩
    go_loopw [18,19,20] (fun bv cv iv wr=>∃(i:Nat) (cr bo:Int) (S:List Int),i≤N+2∧0≤cr∧cr≤4294967295∧0≤bo∧bo≤1∧bv=.int .u64 bo∧cv=.int .u64 cr∧iv=.int .i64 i∧Hid (RW wr w w4.heap.size gu (L5+1) c7 gv c6 (N+2) gq v S Q)∧Hid (DigP j N i U v S q cr bo)) (fun _ _ iv _=>N+2-(intOf iv).toNat)
    case atStart=>exact⟨0,0,0,U,by omega,by omega,by omega,by omega,by omega,rfl,rfl,rfl,a3,rfl,dU.out,by simp[zxe],fun _ _=>rfl⟩
    case round=>
     obtain⟨i,cr,bo,S,hi2,cr0,cr1,o0,o1,rfl,rfl,rfl,hRm,hP⟩:=hrel;clear a3
     by_cases hin:i<N+2
     ·have kv:=hRm.out.vcell (i:=i) hin;have ku:=hRm.out.ucell (i:=i+j) xq;have kf:=hRm.out.ku.frozen (i+j);have hd:=hdv.out.at i;have hx:=hP.out.dig.at (i+j);have mb:=mul_bd32 (x:=q) (y:=v[i]?.getD 0) ⟨q0,q1⟩ hd;obtain⟨d,hdd⟩:∃d,d=v[i]?.getD 0:=⟨_,rfl⟩
      obtain⟨x,hxx⟩:∃x,x=S[i+j]?.getD 0:=⟨_,rfl⟩
      have hn0:=Lib.hid (hP.out.next (p:=cr+q*d) (t:=x-(cr+q*d)%4294967296-bo) Hj.out hin hdd (by rw[Nat.add_comm j i];exact hxx) xq rfl (by rw[hxx];omega) (by rw[hxx];omega));rw[←hdd] at kv hd mb;rw[←hxx] at ku hx;have mb0:=mb.1;have mb1:=mb.2;have and1:=and_low (p:=cr+q*d) xq xq;have hin':(i:Int)<(N:Int)+2:=by omega
      have hij:(i:Int)+(j:Int)<(L5:Int)+1:=by omega
      clear hdd hxx mb hP
      by_cases hlt:x<(cr+q*d)%4294967296+bo
      ·skip
       have hl2:x-(cr+q*d)%4294967296-bo<0:=by omega
       have hn1:=hn0.out;rw[if_pos hl2,show(x-(cr+q*d)%4294967296-bo)%4294967296=x+4294967296-((cr+q*d)%4294967296+bo) by omega,Nat.add_comm j i] at hn1;have Hn:=Lib.hid hn1;have z0:0≤x+4294967296-((cr+q*d)%4294967296+bo):=by omega
       have z1:x+4294967296-((cr+q*d)%4294967296+bo)<4294967296:=by omega
       clear hl2 hn1 hn0
       go_wp2
       go_roundw
       case rel=>exact⟨i+1,_,_,_,by omega,by omega,by omega,by omega,by omega,rfl,rfl,by go_num,hRm.out.setU (fun h=>hguv h.symm) ab hgw (i+j) _,Hn⟩
       case measure=>simp[intOf];omega
      have hl2:¬x-(cr+q*d)%4294967296-bo<0:=by omega
      have hn1:=hn0.out;rw[if_neg hl2,show(x-(cr+q*d)%4294967296-bo)%4294967296=x-((cr+q*d)%4294967296+bo) by omega,Nat.add_comm j i] at hn1;have Hn:=Lib.hid hn1;have z0:0≤x-((cr+q*d)%4294967296+bo):=by omega
      have z1:x-((cr+q*d)%4294967296+bo)<4294967296:=by omega
      clear hl2 hn1 hn0
      go_wp2
      go_roundw
      case rel=>exact⟨i+1,_,_,_,by omega,by omega,by omega,by omega,by omega,rfl,rfl,by go_num,hRm.out.setU (fun h=>hguv h.symm) ab hgw (i+j) _,Hn⟩
      case measure=>simp[intOf];omega
     obtain rfl:i=N+2:=by omega
     have hu:=hRm.out.ucell (i:=j+(N+2)) xq;have hf:=hRm.out.ku.frozen (j+(N+2));rw[hP.out.same _ (.inr qyl),←Eu0.out] at hu;have hjn:(j:Int)+((N:Int)+2)<(L5:Int)+1:=by omega
     by_cases ht:u0<cr+bo
     ·have q2:=hP.out.neg (t:=u0-cr-bo) hvn.out.1 dU.out Eu0.out rfl xq q0;obtain⟨tt,htt⟩:∃tt,tt=u0-cr-bo:=⟨_,rfl⟩
      have Htt:=Lib.hid htt;have bf:-4294967296≤tt:=by omega
      have bp:tt<0:=by omega
      have z0:0≤u0+4294967296-(cr+bo):=by omega
      have z1:u0+4294967296-(cr+bo)<4294967296:=by omega
      have etm:Hid (u0+4294967296-(cr+bo)=tt%4294967296):=by show _=_;omega
      have aT:Hid (RW (wr.setCell ⟨gu,j+(N+2),none⟩ (.int .u32 (u0+4294967296-(cr+bo)))) w w4.heap.size gu (L5+1) c7 gv c6 (N+2) gq v (S.set (j+(N+2)) (tt%4294967296)) Q):=by
       rw[etm.out];exact hRm.out.setU (fun h=>hguv h.symm) ab hgw _ _
      have hlS:Hid ((S.set (j+(N+2)) (tt%4294967296)).length=L5+1):=by show _=_;rw[List.length_set,hP.out.len];exact lU.out
      have dS:Hid (Dig (S.set (j+(N+2)) (tt%4294967296))):=hP.out.dig.set _ xq;clear htt
      go_wp2
      obtain⟨aU,rfl⟩:∃aU:World,aU=wr:=⟨_,rfl⟩
      go_loopw [25,26] (fun cv iv wr=>∃(i:Nat) (c:Int) (R:List Int),i≤N+2∧0≤c∧c≤1∧cv=.int .u64 c∧iv=.int .i64 i∧Hid (RW wr w w4.heap.size gu (L5+1) c7 gv c6 (N+2) gq v R Q)∧Hid (DigQ j N i (S.set (j+(N+2)) (tt%4294967296)) v R c)) (fun _ iv _=>N+2-(intOf iv).toNat)
      case atStart=>exact⟨0,0,_,by omega,by omega,by omega,rfl,rfl,aT,rfl,dS.out,by simp[zxe],fun _ _=>rfl⟩
      case round=>
       obtain⟨i,c,R,hi3,c0,c1,rfl,rfl,hRa,hA⟩:=hrel;clear aT hu hf
       by_cases hin:i<N+2
       ·have kv:=hRa.out.vcell (i:=i) hin;have ku:=hRa.out.ucell (i:=i+j) xq;have hd:=hdv.out.at i;have hx:=hA.out.dig.at (i+j);obtain⟨d,hdd⟩:∃d,d=v[i]?.getD 0:=⟨_,rfl⟩
        obtain⟨x,hxx⟩:∃x,x=R[i+j]?.getD 0:=⟨_,rfl⟩
        have hn1:=hA.out.next (x:=x) (d:=d) (t:=c+(x+d)) (by have:=hlS.out;omega) hin hdd (by rw[Nat.add_comm j i];exact hxx) xq;rw[Nat.add_comm j i] at hn1;have Hn:=Lib.hid hn1;rw[←hdd] at kv hd;rw[←hxx] at ku hx;have hin':(i:Int)<(N:Int)+2:=by omega
        have hij:(i:Int)+(j:Int)<(L5:Int)+1:=by omega
        have hRx:Hid (∀k,RW (wr.drewN k) w w4.heap.size gu (L5+1) c7 gv c6 (N+2) gq v R Q):=fun k=>hRa.out.drewN k;have ad:IntKind.i64.wrap ((i:Int)+(j:Int))=(i:Int)+(j:Int):=IntWalk.i64_in _ xq;have ac:((i:Int)+(j:Int)).toNat=i+j:=by omega
        clear hdd hxx hn1 hA hRa
        go_wp2
        go_quiet (fail)
        have hR6:=Lib.hid (hRx.out nq);clear hRx ad ac kv ku;generalize wr.drewN nq=wq at *;have ku:=hR6.out.ucell (i:=i+j) xq;have kf:=hR6.out.ku.frozen (i+j)
        go_wp2
        go_roundw
        case rel=>exact⟨i+1,_,_,by omega,by omega,by omega,rfl,by go_num,hR6.out.setU (fun h=>hguv h.symm) ab hgw (i+j) _,Hn⟩
        case measure=>simp[intOf];omega
       obtain rfl:i=N+2:=by omega
       obtain⟨z1,z2,z3,z4⟩:=DigQ.done hP.out hA.out Hj.out hvn.out.1 hdv.out dU.out Eu0.out Htt.out bp bf q0 q1 hT.out HTd.out hG.out xq hv2.1;have hu:=hRa.out.ucell (i:=j+(N+2)) xq;have hf:=hRa.out.ku.frozen (j+(N+2));rw[z1] at hu;have hDR:=Lib.hid z4;obtain⟨y2,aM⟩:∃y2,y2=tt%4294967296:=⟨_,rfl⟩
       rw[←aM] at hu z3;have y20:0≤y2:=by omega
       have y21:y2<4294967296:=by omega
       have hRz:Hid (RW (wr.setCell ⟨gu,j+(N+2),none⟩ (.int .u32 0)) w w4.heap.size gu (L5+1) c7 gv c6 (N+2) gq v (R.set (j+(N+2)) 0) Q):=hRa.out.setU (fun h=>hguv h.symm) ab hgw _ _;clear z1 z4 aM;have hcq:=hRz.out.kq.cell (i:=j) (by have:=hQ.out;omega);have hfq:=hRz.out.kq.frozen j;have hjM:(j:Int)<M:=by omega
       go_wp2
       go_roundw
       case rel=>
        obtain⟨d1,d2,d3,d4,d5,d6,d7⟩:=hDR.out;exact⟨j,_,_,by omega,rfl,hRz.out.setQ aR ab aW j _,by have:=hQ.out;show _=_;simpa using this,hD.out.next (by have:=lU.out;omega) (by have:=hQ.out;omega) hvn.out.1 hdv.out d1 d2 d3 d4 d5 d6 d7⟩
       case measure=>simp[intOf]
     have hDR:=Lib.hid (hP.out.done (t:=u0-(cr+bo)) Hj.out hvn.out.1 hdv.out dU.out Eu0.out xq xq xq q0 q1 hT.out HTd.out hG.out xq hv2.1);have z0:0≤u0-(cr+bo):=by omega
     have z1:u0-(cr+bo)<4294967296:=by omega
     have hRz:Hid (RW (wr.setCell ⟨gu,j+(N+2),none⟩ (.int .u32 (u0-(cr+bo)))) w w4.heap.size gu (L5+1) c7 gv c6 (N+2) gq v (S.set (j+(N+2)) (u0-(cr+bo))) Q):=hRm.out.setU (fun h=>hguv h.symm) ab hgw _ _;have hcq:=hRz.out.kq.cell (i:=j) (by have:=hQ.out;omega);have hfq:=hRz.out.kq.frozen j;have hjM:(j:Int)<M:=by omega
     go_wp2
     go_roundw
     case rel=>
      obtain⟨d1,d2,d3,d4,d5,d6,d7⟩:=hDR.out;exact⟨j,_,_,by omega,rfl,hRz.out.setQ aR ab aW j _,by have:=hQ.out;show _=_;simpa using this,hD.out.next (by have:=lU.out;omega) (by have:=hQ.out;omega) hvn.out.1 hdv.out d1 d2 d3 d4 d5 d6 d7⟩
     case measure=>simp[intOf]
theorem rDivMod_any(A B:Option Addr)(n c m d:Nat)(a b:List Int)(w:World)(ha:SlR .u32 w A n c a)(hb:SlR .u32 w B m d b)(da:Dig a)(db:Dig b)(hn:n≤500000000)(hm:m≤500000000)(hz:Nt.val b≠0):
  qyc 145 #[.slice A n c,.slice B m d] w fun e w'=>DivMF w w' e (Nt.val a) (Nt.val b):=by
 have b0:=zxc db
 rcases Int.lt_or_le (Nt.val b) 4294967296 with h|h
 ·exact rDivMod_one _ _ _ _ _ _ _ _ _ ha hb da db xq xq xq h
 rcases Int.lt_or_le (Nt.val a) (Nt.val b) with h'|h'
 ·exact rDivMod_lt _ _ _ _ _ _ _ _ _ ha hb da db xq xq h h'
 exact rDivMod_long _ _ _ _ _ _ _ _ _ ha hb da db hn hm h h'
theorem rGcd_any(A B:Option Addr)(n c m d:Nat)(a b:List Int)(w:World)(ha:SlR .u32 w A n c a)(hb:SlR .u32 w B m d b)(da:Dig a)(db:Dig b)(hn:n≤500000000)(hm:m≤500000000):
  qyc 144 #[.slice A n c,.slice B m d] w fun e w'=>∃A' n' c',e=.returned (.slice A' n' c')∧NatF w w' A' n' c' (Nat.gcd (Nt.val a).toNat (Nt.val b).toNat)∧Below w.heap.size w w':=by
 have l1:Hid ((digits (Nt.val a).toNat).length≤n):=by rw[←zxs da,←ha.1];exact zyh a
 have l2:Hid ((digits (Nt.val b).toNat).length≤m):=by rw[←zxs db,←hb.1];exact zyh b
 go_enter Tryz.func144,Tryz.ntmps144
 go_wp2_with fail
 refine(zxf _ _ _ _ _ ha da xq).mono ?_;rintro e w1 ⟨A1,n1,c1,rfl,f1,b1⟩
 go_wp2_with fail
 refine(zxf _ _ _ _ _ (hb.below b1) db xq).mono ?_;rintro e w2 ⟨A2,n2,c2,rfl,f2,b2⟩;have g1:NatF w w2 A1 n1 c1 (Nt.val a).toNat:=f1.nat.below b2;have g2:NatF w w2 A2 n2 c2 (Nt.val b).toNat:=f2.nat.mono b1.size;have hB:Hid (Below w.heap.size w w2):=b1.trans (b2.mono b1.size);have ac:n1≤500000000:=by have:=f1.1;have:=l1.out;omega
 have aa:n2≤500000000:=by have:=f2.1;have:=l2.out;omega
 clear f1 f2 b1 b2 ha hb l1 l2 da db;obtain⟨X,hX⟩:∃X,X=(Nt.val a).toNat:=⟨_,rfl⟩
 obtain⟨Y,hY⟩:∃Y,Y=(Nt.val b).toNat:=⟨_,rfl⟩
 obtain⟨G,hG⟩:∃G,G=Nat.gcd (Nt.val a).toNat (Nt.val b).toNat:=⟨_,rfl⟩
 have HG:=Lib.hid hG;have ab:Hid (Nat.gcd X Y=G):=by show _=_;rw[hX,hY,hG]
 rw[←hX] at g1;rw[←hY] at g2;have G1:=Lib.hid g1;have G2:=Lib.hid g2;clear hX hY hG g1 g2
 go_wp2
 go_loopw [0,1] (fun s5 s6 wx=>∃A1 n1 c1 A2 n2 c2 X Y,s5=.slice A1 n1 c1∧s6=.slice A2 n2 c2∧Hid (NatF w wx A1 n1 c1 X)∧Hid (NatF w wx A2 n2 c2 Y)∧Hid (Below w.heap.size w wx)∧n1≤500000000∧n2≤500000000∧Hid (Nat.gcd X Y=G)) (fun _ s6 wx=>sval wx s6)
 case atStart=>exact⟨A1,n1,c1,A2,n2,c2,X,Y,rfl,rfl,G1,G2,hB,ac,aa,ab⟩
 case round=>
  clear G1 G2 hB ab ac aa;obtain⟨A1,n1,c1,A2,n2,c2,X,Y,rfl,rfl,K1,K2,KB,ac,aa,ab⟩:=hrel
  rcases Nat.eq_zero_or_pos n2 with h0|h0
  ·subst h0
   have hY:Hid (X=G):=by
    have e1:=K2.out.1
    have:Y=0:=by
     rcases Nat.eq_zero_or_pos Y with h|h
     ·exact h
     have:=zwo h;omega
    have e2:=ab.out;rw[this,Nat.gcd_zero_right] at e2;exact e2
   go_wp2
   go_ret
   refine⟨A1,n1,c1,rfl,?_,KB.out⟩;rw[←HG.out,←hY.out];exact K1.out
  have h0':(0:Int)<n2:=by omega
  have hYp:0<Y:=by
   rcases Nat.eq_zero_or_pos Y with h|h
   ·have e1:=K2.out.1;rw[h,zxa] at e1;simp at e1;omega
   exact h
  go_wp2_with fail
  refine(rDivMod_any _ _ _ _ _ _ _ _ _ K1.out.2.1 K2.out.2.1 (zyj X) (zyj Y) ac aa (by rw[zyi];omega)).mono ?_;rintro e w5 ⟨A3,n3,c3,A4,n4,c4,rfl,f1,f2,hbl⟩;rw[zyi,zyi,←Int.natCast_emod,Int.toNat_natCast] at f2;have hr:=Nat.mod_lt X hYp;have ad:n4≤500000000:=by rw[f2.1];have:=zxk (Nat.le_of_lt hr);rw[←K2.out.1] at this;omega
  have hG':Hid (Nat.gcd Y (X%Y)=G):=by show _=_;rw[←ab.out,Nat.gcd_comm X Y,Nat.gcd_rec Y X,Nat.gcd_comm]
  have E1:Hid (NatF w w5 A2 n2 c2 Y):=K2.out.below hbl;have E2:Hid (NatF w w5 A4 n4 c4 (X%Y)):=f2.mono KB.out.size;have E3:Hid (Below w.heap.size w w5):=KB.out.trans (hbl.mono KB.out.size)
  have Hms:Hid (sval w5 (.slice A4 n4 c4)<sval wr (.slice A2 n2 c2)):=by
   show _<_;rw[sval_slr f2.2.1,sval_slr K2.out.2.1,zyi,zyi]
   omega
  clear f1 f2 hbl
  go_wp2
  go_roundw
  case rel=>exact⟨A2,n2,c2,A4,n4,c4,Y,X%Y,rfl,rfl,E1,E2,E3,aa,ad,hG'⟩
  case measure=>exact Hms.out
def dl(N:Nat):Nat:=(digits N).length
namespace Nt
theorem dl_mono{x y:Nat}(h:y≤x):dl y≤dl x:=zxk h
theorem dl_lt{x:Nat}:(x:Int)<pw (dl x):=by have:=val_lt (zyj x);rw[zyi] at this;exact this
theorem dl_le{x n:Nat}(h:(x:Int)<pw n):dl x≤n:=digits_length_le h
theorem dl_mul(x y:Nat):dl (x*y)≤dl x+dl y:=by
 apply dl_le
 rw[pw_add,Int.natCast_mul];have h1:=dl_lt (x:=x);have h2:=dl_lt (x:=y);have a:(x:Int)*y≤x*pw (dl y):=Int.mul_le_mul_of_nonneg_left xq xq;have b:(x:Int)*pw (dl y)<pw (dl x)*pw (dl y):=Int.mul_lt_mul_of_pos_right h1 (pw_pos _)
 omega
theorem dl_add(x y:Nat):dl (x+y)≤max (dl x) (dl y)+1:=by
 apply dl_le
 rw[pw,Int.natCast_add];have h1:=dl_lt (x:=x);have h2:=dl_lt (x:=y);have a:=pw_mono (Nat.le_max_left (dl x) (dl y));have b:=pw_mono (Nat.le_max_right (dl x) (dl y));have:=pw_pos (max (dl x) (dl y))
 omega
theorem dl_one:dl 1=1:=by unfold dl;rw[digits,if_neg xq,digits,if_pos xq];rfl
theorem dl_zero:dl 0=0:=by unfold dl;rw[zxa];rfl
theorem dl_pos{x:Nat}:0<dl x↔0<x:=by
 constructor
 ·intro h0
  rcases Nat.eq_zero_or_pos x with h'|h'
  ·rw[h',dl_zero] at h0;omega
  exact h'
 exact zwo
def sg(s:Bool)(N:Nat):Int:=if s then -(N:Int) else(N:Int)
theorem sg_abs(s:Bool)(N:Nat):(sg s N).natAbs=N:=by unfold sg;split<;>omega
theorem sg_false(N:Nat):sg false N=N:=rfl
theorem sg_true(N:Nat):sg true N=-N:=rfl
theorem sg_add1{s t:Bool}(N M:Nat)(h:(s==t)=true):sg s (N+M)=sg s N+sg t M:=by cases s<;>cases t<;>simp_all [sg]<;>omega
theorem sg_add2{s t:Bool}(N M:Nat)(h:(s==t)=false)(c:(cmpS (N:Int) (M:Int) == -1)=true):sg t (M-N)=sg s N+sg t M:=by
 unfold cmpS at c
 cases s<;>cases t<;>simp_all [sg]<;>omega
theorem sg_add3{s t:Bool}(N M:Nat)(h:(s==t)=false)(c:(cmpS (N:Int) (M:Int) == -1)=false):sg s (N-M)=sg s N+sg t M:=by
 unfold cmpS at c
 cases s<;>cases t<;>simp_all [sg]<;>omega
theorem sg_mul(s t:Bool)(N M:Nat):sg (!(s==t)) (N*M)=sg s N*sg t M:=by
 cases s<;>cases t<;>simp[sg,Int.neg_mul,Int.mul_neg]
theorem sg_neg(s:Bool)(N:Nat):sg (!s) N=-sg s N:=by cases s<;>simp[sg]
theorem sg_cmp0{s:Bool}(N:Nat):cmpS (sg s N) 0=if(cmpS (N:Int) 0==0)=true then 0 else if s=true then -1 else 1:=by
 unfold cmpS sg
 cases s<;>simp<;>(repeat' split)<;>first|rfl|omega|simp_all
theorem cmp_self_sub(x y:Int):cmpS (x-y) 0=cmpS x y:=by
 unfold cmpS
 rcases Int.lt_trichotomy x y with h|h|h
 ·rw[if_pos xq,if_pos h]
 ·rw[if_neg xq,if_pos xq,if_neg xq,if_pos h]
 rw[if_neg xq,if_neg xq,if_neg xq,if_neg xq]
theorem cmp_range(x y:Int):cmpS x y=-1∧x<y∨cmpS x y=0∧x=y∨cmpS x y=1∧y<x:=by
 unfold cmpS
 rcases Int.lt_trichotomy x y with h|h|h
 ·simp[h]
 ·simp[h]
 rw[if_neg xq,if_neg xq];simp[h]
theorem cmp_lt{x y:Int}(h:x<y):cmpS x y=-1:=by unfold cmpS;rw[if_pos h]
theorem cmp_gt{x y:Int}(h:y<x):cmpS x y=1:=by unfold cmpS;rw[if_neg xq,if_neg xq]
theorem cmp_eq{x y:Int}(h:x=y):cmpS x y=0:=by unfold cmpS;rw[if_neg xq,if_pos h]
end Nt
structure Sl where
 a:Option Addr
 n:Nat
 c:Nat
@[reducible] def Sl.v(x:Sl):Value:=.slice x.a x.n x.c
structure IL where
 s:Bool
 m:Sl
@[reducible] def IL.v(i:IL):Value:=.agg #[.bool i.s,.slice i.m.a i.m.n i.m.c]
structure RL where
 s:Bool
 m:Sl
 d:Sl
def RL.cs(r:RL):List Value:=[.bool r.s,.slice r.m.a r.m.n r.m.c,.slice r.d.a r.d.n r.d.c]
def IL.cs(i:IL):List Value:=[.bool i.s,.slice i.m.a i.m.n i.m.c]
@[reducible] def RL.v(r:RL):Value:=.agg #[.bool r.s,.slice r.m.a r.m.n r.m.c,.slice r.d.a r.d.n r.d.c]
def NatV(u:World)(x:Sl)(N K:Nat):Prop:=∃l,SlR .u32 u x.a x.n x.c l∧Dig l∧x.n≤K∧Nt.val l=N
def NatN(u:World)(x:Sl)(N K:Nat):Prop:=x.n=dl N∧SlR .u32 u x.a x.n x.c (digits N)∧dl N≤K
def IntV(u:World)(i:IL)(z:Int)(K:Nat):Prop:=∃N,NatV u i.m N K∧z=Nt.sg i.s N
def IntN(u:World)(i:IL)(z:Int)(K:Nat):Prop:=i.s=decide (z<0)∧NatN u i.m z.natAbs K
section
variable {u u' w w':World} {x y:Sl} {i j:IL} {r:RL} {N M K L:Nat} {z z':Int} {q:Rat}
theorem NatV.ext(h:NatV u x N K)(e:Ext u u'):NatV u' x N K:=by obtain⟨l,h1,h2⟩:=h;exact⟨l,h1.ext e,h2⟩
theorem NatN.ext(h:NatN u x N K)(e:Ext u u'):NatN u' x N K:=⟨h.1,h.2.1.ext e,h.2.2⟩
theorem IntV.ext(h:IntV u i z K)(e:Ext u u'):IntV u' i z K:=by obtain⟨N,h1,h2⟩:=h;exact⟨N,h1.ext e,h2⟩
theorem IntN.ext(h:IntN u i z K)(e:Ext u u'):IntN u' i z K:=⟨h.1,h.2.ext e⟩
theorem NatV.more(h:NatV u x N K)(k:K≤L):NatV u x N L:=by obtain⟨l,h1,h2,h3,h4⟩:=h;exact⟨l,h1,h2,by omega,h4⟩
theorem NatN.more(h:NatN u x N K)(k:K≤L):NatN u x N L:=⟨h.1,h.2.1,Nat.le_trans h.2.2 k⟩
theorem IntV.more(h:IntV u i z K)(k:K≤L):IntV u i z L:=by obtain⟨N,h1,h2⟩:=h;exact⟨N,h1.more k,h2⟩
theorem IntN.more(h:IntN u i z K)(k:K≤L):IntN u i z L:=⟨h.1,h.2.more k⟩
theorem NatN.raw(h:NatN u x N K):NatV u x N K:=⟨_,h.2.1,zyj _,by have:=h.2.2;rw[h.1];exact this,zyi _⟩
theorem IntN.raw(h:IntN u i z K):IntV u i z K:=by
 refine⟨z.natAbs,h.2.raw,?_⟩
 unfold Nt.sg
 rw[h.1]
 by_cases hz:z<0
 ·simp[hz];omega
 simp[hz];omega
theorem NatV.size(h:NatV u x N K):dl N≤K:=by
 obtain⟨l,h1,h2,h3,h4⟩:=h;have e:=zxs h2;rw[h4,Int.toNat_natCast] at e;have:=zyh l;rw[e] at this;have:=h1.1
 unfold dl;omega
theorem IntV.abs(h:IntV u i z K):NatV u i.m z.natAbs K:=by
 obtain⟨N,h1,h2⟩:=h;have e:z.natAbs=N:=by rw[h2,sg_abs]
 rw[e];exact h1
theorem IntV.size(h:IntV u i z K):dl z.natAbs≤K:=h.abs.size
theorem NatN.pos(h:NatN u x N K):0<x.n↔0<N:=by rw[h.1];exact dl_pos
theorem nat_nil(u:World)(K:Nat):NatV u ⟨none,0,0⟩ 0 K:=⟨[],SlR.nil _ _ _ (Nat.zero_le _),Dig.nil,Nat.zero_le _,rfl⟩
theorem nat_nilN(u:World)(K:Nat):NatN u ⟨none,0,0⟩ 0 K:=⟨by rw[dl_zero],by rw[zxa];exact SlR.nil _ _ _ (Nat.zero_le _),by rw[dl_zero];omega⟩
theorem int_zero(u:World)(K:Nat):IntN u ⟨false,none,0,0⟩ 0 K:=⟨rfl,nat_nilN u K⟩
theorem signed_int{s:Bool}(h:NatN u x N K):IntN u ⟨s&&decide ((0:Int)<(x.n:Int)),x⟩ (Nt.sg s N) K:=by
 have hn:=h.pos;refine⟨?_,by rw[sg_abs];exact h⟩
 unfold Nt.sg
 cases s<;>simp<;>omega
theorem IntV.same{s:Bool}(h:NatV u x N K):IntV u ⟨s,x⟩ (Nt.sg s N) K:=⟨N,h,rfl⟩
theorem one_data{b:Nat}(h:u.heap[b]? = some (.cells #[.int .u32 1] 77 (0,0))):NatN u ⟨some ⟨b,0,none⟩,1,1⟩ 1 1:=by
 have hk:KBlk .u32 u b 77 [1]:=h
 have e:digits 1=[1]:=by
  have h1:strip [1]=[1]:=by simp[strip]
  have h2:=zxs (l:=[1]) (Dig.cons xq Dig.nil);rw[h1] at h2;exact h2.symm
 exact⟨by rw[dl_one],by rw[e];exact hk.slr_all rfl qyl (show 1≤maxLen by decide),by rw[dl_one];exact Nat.le_refl _⟩
theorem two_data{b:Nat}{p q:Int}(h:u.heap[b]? = some (.cells #[.int .u32 p,.int .u32 q] 77 (0,0)))(hp:0≤p∧p<4294967296)(hq:0≤q∧q<4294967296)(hN:p+4294967296*q=N):NatV u ⟨some ⟨b,0,none⟩,2,2⟩ N 2:=by
 have hk:KBlk .u32 u b 77 [p,q]:=h;exact⟨[p,q],hk.slr_all rfl qyl (show 2≤maxLen by decide),Dig.cons hp (Dig.cons hq Dig.nil),Nat.le_refl _,by simp[Nt.val];omega⟩
theorem nat_digit(h:NatV u x N K)(hn:x.n=1):∃b o,x.a=some ⟨b,o,none⟩∧u.cell? ⟨b,o,none⟩=some (.int .u32 N):=by
 obtain⟨l,h1,h2,h3,h4⟩:=h;obtain⟨b,o,e,_,hc⟩:=h1.pos (i:=0) xq;refine⟨b,o,e,?_⟩
 simp only[Nat.add_zero] at hc
 rw[hc];have hl:=h1.1;have e2:=h4;rw[←zyg l (n:=1) xq,zyf,zxe] at e2;have:l[0]?.getD 0=(N:Int):=by simpa[pw] using e2
 rw[this]
theorem nat_int(h:NatV u x N K):IntV u ⟨false,x⟩ N K:=⟨N,h,rfl⟩
theorem nat_intN(h:NatN u x N K):IntN u ⟨false,x⟩ N K:=⟨by simp,by simpa using h⟩
theorem int_mag(h:IntN u i z K):NatN u i.m z.natAbs K:=h.2
theorem over_nat{A:Option Addr}{n c:Nat}(h:NatF w w' A n c N)(hu:u.heap.size=w.heap.size)(hs:u.heap.size≤w'.heap.size)(hN:dl N≤K):NatN (over u w') ⟨A,n,c⟩ N K:=by
 obtain⟨h1,h2,h3⟩:=h;exact⟨h1,h2.over (fun hp=>by obtain⟨a,e,k,_⟩:=h3 hp;exact⟨a,e,by omega⟩) hs,hN⟩
def NatG(w w':World)(e:Ending)(N:Nat):Prop:=∃A n c,e=.returned (.slice A n c)∧NatF w w' A n c N∧Below w.heap.size w w'
theorem post_nat{e:Ending}(d:Dat u w)(h:NatG w w' e N)(hN:dl N≤K):Post u w (fun v u'=>∃x:Sl,v=x.v∧NatN u' x N K) e w':=by
 obtain⟨A,n,c,rfl,f,hb⟩:=h;have hs:u.heap.size≤w'.heap.size:=by rw[d.size];exact hb.size
 exact⟨_,over u w',rfl,over_dat d hb,hb,over_grow hs,⟨A,n,c⟩,rfl,over_nat f d.size hs hN⟩
theorem post_below{e:Ending}{v:Value}(d:Dat u w)(he:e=.returned v)(hb:Below w.heap.size w w'):Post u w (fun v' _=>v'=v) e w':=
 ⟨v,over u w',he,over_dat d hb,hb,over_grow (by rw[d.size];exact hb.size),rfl⟩
theorem below_drewN(w:World)(k:Nat):Below w.heap.size w (w.drewN k):=⟨rfl,rfl,rfl,Nat.le_refl _,fun _ _=>rfl⟩
theorem nat_fits{A:Option Addr}{n c:Nat}{e:Ending}{t:Int}(h:e=.returned (.slice A n c)∧NatF w w' A n c t.toNat∧Below w.heap.size w w')(ht:t=(N:Int)):NatG w w' e N:=by
 subst ht;rw[Int.toNat_natCast] at h;exact⟨A,n,c,h⟩
def DivN(N M K L:Nat)(v:Value)(u:World):Prop:=∃x y:Sl,v=.tuple #[x.v,y.v,.int .i64 0]∧NatN u x (N/M) K∧NatN u y (N%M) L
theorem post_div{e:Ending}(d:Dat u w)(h:DivMF w w' e (N:Int) (M:Int))(hK:dl N≤K)(hL:dl M≤L)(hM:0<M):Post u w (DivN N M K L) e w':=by
 obtain⟨A1,n1,c1,A2,n2,c2,rfl,f,g,hb⟩:=h;rw[←Int.natCast_ediv,Int.toNat_natCast] at f;rw[←Int.natCast_emod,Int.toNat_natCast] at g;have hs:u.heap.size≤w'.heap.size:=by rw[d.size];exact hb.size
 exact⟨_,over u w',rfl,over_dat d hb,hb,over_grow hs,⟨A1,n1,c1⟩,⟨A2,n2,c2⟩,rfl,over_nat f d.size hs (Nat.le_trans (dl_mono (Nat.div_le_self _ _)) hK),over_nat g d.size hs (Nat.le_trans (dl_mono (Nat.le_of_lt (Nat.mod_lt _ hM))) hL)⟩
theorem k_natAdd(d:Dat u w)(h1:NatV u x N K)(h2:NatV u y M L)(hK:K≤500000000)(hL:L≤500000000):qyc 167 #[x.v,y.v] w (Post u w fun v u'=>∃x:Sl,v=x.v∧NatN u' x (N+M) (max K L+1)):=by
 have hs1:=h1.size;have hs2:=h2.size;obtain⟨a,a1,a2,a3,a4⟩:=h1;obtain⟨b,b1,b2,b3,b4⟩:=h2;refine(Add_any _ _ _ _ _ _ _ _ _ (a1.ext d.ext) (b1.ext d.ext) a2 b2 xq xq).mono fun e w' ⟨A',n',c',h⟩=>?_;rw[a4,b4] at h;exact post_nat d (nat_fits h xq) (by have:=dl_add N M;omega)
theorem k_natSub(d:Dat u w)(h1:NatV u x N K)(h2:NatV u y M L)(hK:K≤500000000)(hL:L≤500000000):qyc 168 #[x.v,y.v] w (Post u w fun v u'=>∃x:Sl,v=x.v∧NatN u' x (N-M) (K)):=by
 have hs1:=h1.size;have hs2:=h2.size;obtain⟨a,a1,a2,a3,a4⟩:=h1;obtain⟨b,b1,b2,b3,b4⟩:=h2;refine(Sub_any _ _ _ _ _ _ _ _ _ (a1.ext d.ext) (b1.ext d.ext) a2 b2 xq xq).mono fun e w' ⟨A',n',c',h⟩=>?_;rw[a4,b4] at h;exact post_nat d (by rw[show((N:Int)-(M:Int)).toNat=N-M by omega] at h;exact⟨A',n',c',h⟩) (by have:=dl_mono (Nat.sub_le N M);omega)
theorem k_natMul(d:Dat u w)(h1:NatV u x N K)(h2:NatV u y M L)(hK:K≤500000000)(hL:L≤500000000):qyc 161 #[x.v,y.v] w (Post u w fun v u'=>∃x:Sl,v=x.v∧NatN u' x (N*M) (K+L)):=by
 have hs1:=h1.size;have hs2:=h2.size;obtain⟨a,a1,a2,a3,a4⟩:=h1;obtain⟨b,b1,b2,b3,b4⟩:=h2;refine(Mul_any _ _ _ _ _ _ _ _ _ (a1.ext d.ext) (b1.ext d.ext) a2 b2 xq xq).mono fun e w' ⟨A',n',c',h⟩=>?_;rw[a4,b4] at h;exact post_nat d (nat_fits h (Int.natCast_mul N M).symm) (by have:=dl_mul N M;omega)
theorem k_natGcd(d:Dat u w)(h1:NatV u x N K)(h2:NatV u y M L)(hK:K≤500000000)(hL:L≤500000000):qyc 164 #[x.v,y.v] w (Post u w fun v u'=>∃x:Sl,v=x.v∧NatN u' x (Nat.gcd N M) (max K L)):=by
 have hs1:=h1.size;have hs2:=h2.size;obtain⟨a,a1,a2,a3,a4⟩:=h1;obtain⟨b,b1,b2,b3,b4⟩:=h2;refine(Gcd_any _ _ _ _ _ _ _ _ _ (a1.ext d.ext) (b1.ext d.ext) a2 b2 xq xq).mono fun e w' ⟨A',n',c',h⟩=>?_;rw[a4,b4] at h
 exact post_nat d (by rw[Int.toNat_natCast,Int.toNat_natCast] at h;exact⟨A',n',c',h⟩) (by
  rcases Nat.eq_zero_or_pos M with h0|h0
  ·rw[h0,Nat.gcd_zero_right];omega
  have:=dl_mono (Nat.gcd_le_right N h0);omega)
theorem k_natTrim(d:Dat u w)(h1:NatV u x N K)(hK:K≤500000000):qyc 138 #[x.v] w (Post u w fun v u'=>∃x:Sl,v=x.v∧NatN u' x N K):=by
 have hs1:=h1.size;obtain⟨a,a1,a2,a3,a4⟩:=h1;refine(Trim_any _ _ _ _ _ (a1.ext d.ext) a2 xq).mono fun e w' ⟨A',n',c',h⟩=>?_;rw[a4] at h;exact post_nat d (nat_fits h rfl) hs1
theorem k_natDivMod(d:Dat u w)(h1:NatV u x N K)(h2:NatV u y M L)(hM:0<M)(hK:K≤500000000)(hL:L≤500000000):qyc 162 #[x.v,y.v] w (Post u w (DivN N M K L)):=by
 have hs1:=h1.size;have hs2:=h2.size;obtain⟨a,a1,a2,a3,a4⟩:=h1;obtain⟨b,b1,b2,b3,b4⟩:=h2;refine(DivMod_any _ _ _ _ _ _ _ _ _ (a1.ext d.ext) (b1.ext d.ext) a2 b2 xq xq).mono fun e w' h=>?_;rw[a4,b4] at h;exact post_div d h hs1 hs2 hM
theorem k_rnAdd(d:Dat u w)(h1:NatV u x N K)(h2:NatV u y M L)(hK:K≤500000000)(hL:L≤500000000):qyc 146 #[x.v,y.v] w (Post u w fun v u'=>∃x:Sl,v=x.v∧NatN u' x (N+M) (max K L+1)):=by
 have hs1:=h1.size;have hs2:=h2.size;obtain⟨a,a1,a2,a3,a4⟩:=h1;obtain⟨b,b1,b2,b3,b4⟩:=h2;refine(rAdd_any _ _ _ _ _ _ _ _ _ (a1.ext d.ext) (b1.ext d.ext) a2 b2 xq xq).mono fun e w' ⟨A',n',c',h⟩=>?_;rw[a4,b4] at h;exact post_nat d (nat_fits h xq) (by have:=dl_add N M;omega)
theorem k_rnSub(d:Dat u w)(h1:NatV u x N K)(h2:NatV u y M L)(hK:K≤500000000)(hL:L≤500000000):qyc 147 #[x.v,y.v] w (Post u w fun v u'=>∃x:Sl,v=x.v∧NatN u' x (N-M) (K)):=by
 have hs1:=h1.size;have hs2:=h2.size;obtain⟨a,a1,a2,a3,a4⟩:=h1;obtain⟨b,b1,b2,b3,b4⟩:=h2;refine(rSub_any _ _ _ _ _ _ _ _ _ (a1.ext d.ext) (b1.ext d.ext) a2 b2 xq xq).mono fun e w' ⟨A',n',c',h⟩=>?_;rw[a4,b4] at h;exact post_nat d (by rw[show((N:Int)-(M:Int)).toNat=N-M by omega] at h;exact⟨A',n',c',h⟩) (by have:=dl_mono (Nat.sub_le N M);omega)
theorem k_rnMul(d:Dat u w)(h1:NatV u x N K)(h2:NatV u y M L)(hK:K≤500000000)(hL:L≤500000000):qyc 93 #[x.v,y.v] w (Post u w fun v u'=>∃x:Sl,v=x.v∧NatN u' x (N*M) (K+L)):=by
 have hs1:=h1.size;have hs2:=h2.size;obtain⟨a,a1,a2,a3,a4⟩:=h1;obtain⟨b,b1,b2,b3,b4⟩:=h2;refine(rMul_any _ _ _ _ _ _ _ _ _ (a1.ext d.ext) (b1.ext d.ext) a2 b2 xq xq).mono fun e w' ⟨A',n',c',h⟩=>?_;rw[a4,b4] at h;exact post_nat d (nat_fits h (Int.natCast_mul N M).symm) (by have:=dl_mul N M;omega)
theorem k_rnGcd(d:Dat u w)(h1:NatV u x N K)(h2:NatV u y M L)(hK:K≤500000000)(hL:L≤500000000):qyc 144 #[x.v,y.v] w (Post u w fun v u'=>∃x:Sl,v=x.v∧NatN u' x (Nat.gcd N M) (max K L)):=by
 have hs1:=h1.size;have hs2:=h2.size;obtain⟨a,a1,a2,a3,a4⟩:=h1;obtain⟨b,b1,b2,b3,b4⟩:=h2;refine(rGcd_any _ _ _ _ _ _ _ _ _ (a1.ext d.ext) (b1.ext d.ext) a2 b2 xq xq).mono fun e w' ⟨A',n',c',h⟩=>?_;rw[a4,b4] at h
 exact post_nat d (by rw[Int.toNat_natCast,Int.toNat_natCast] at h;exact⟨A',n',c',h⟩) (by
  rcases Nat.eq_zero_or_pos M with h0|h0
  ·rw[h0,Nat.gcd_zero_right];omega
  have:=dl_mono (Nat.gcd_le_right N h0);omega)
theorem k_rnTrim(d:Dat u w)(h1:NatV u x N K)(hK:K≤500000000):qyc 89 #[x.v] w (Post u w fun v u'=>∃x:Sl,v=x.v∧NatN u' x N K):=by
 have hs1:=h1.size;obtain⟨a,a1,a2,a3,a4⟩:=h1;refine(zxf _ _ _ _ _ (a1.ext d.ext) a2 xq).mono fun e w' ⟨A',n',c',h⟩=>?_;rw[a4] at h;exact post_nat d (nat_fits ⟨h.1,h.2.1.nat,h.2.2⟩ rfl) hs1
theorem k_rnDivMod(d:Dat u w)(h1:NatV u x N K)(h2:NatV u y M L)(hM:0<M)(hK:K≤500000000)(hL:L≤500000000):qyc 145 #[x.v,y.v] w (Post u w (DivN N M K L)):=by
 have hs1:=h1.size;have hs2:=h2.size;obtain⟨a,a1,a2,a3,a4⟩:=h1;obtain⟨b,b1,b2,b3,b4⟩:=h2;refine(rDivMod_any _ _ _ _ _ _ _ _ _ (a1.ext d.ext) (b1.ext d.ext) a2 b2 xq xq xq).mono fun e w' h=>?_;rw[a4,b4] at h;exact post_div d h hs1 hs2 hM
theorem k_natCompare(d:Dat u w)(h1:NatV u x N K)(h2:NatV u y M L):qyc 160 #[x.v,y.v] w (Post u w fun v _=>v=.int .i64 (cmpS N M)):=by
 obtain⟨a,a1,a2,a3,a4⟩:=h1;obtain⟨b,b1,b2,b3,b4⟩:=h2;refine(Compare_any _ _ _ _ _ _ _ _ _ (a1.ext d.ext) (b1.ext d.ext) a2 b2).mono fun e w' ⟨h,k,hk⟩=>?_;rw[a4,b4] at h;exact post_below d h (by rw[hk];exact below_drewN w k)
theorem k_rnCompare(d:Dat u w)(h1:NatV u x N K)(h2:NatV u y M L)(hK:K≤500000000)(hL:L≤500000000):qyc 180 #[x.v,y.v] w (Post u w fun v _=>v=.int .i64 (cmpS N M)):=by
 obtain⟨a,a1,a2,a3,a4⟩:=h1;obtain⟨b,b1,b2,b3,b4⟩:=h2;refine(rCompare_any _ _ _ _ _ _ _ _ _ (a1.ext d.ext) (b1.ext d.ext) a2 b2 xq xq).mono fun e w' ⟨h,hb⟩=>?_;rw[a4,b4] at h;exact post_below d h hb
end
namespace Nt
theorem mk_den{z:Int}{D:Nat}(hD:0<D):(mkRat z D).den=D/Nat.gcd z.natAbs D∧(mkRat z D).num=z/((Nat.gcd z.natAbs D:Nat):Int):=by
 rw[←Rat.normalize_eq_mkRat xq,Rat.normalize_eq];exact⟨rfl,rfl⟩
theorem mk_num{z:Int}{D:Nat}(hD:0<D):(mkRat z D).num.natAbs=z.natAbs/Nat.gcd z.natAbs D∧((mkRat z D).num<0↔z<0):=by
 have h:=(mk_den (z:=z) hD).2;have hg:0<Nat.gcd z.natAbs D:=Nat.gcd_pos_of_pos_right _ hD;obtain⟨k,hk⟩:=Nat.gcd_dvd_left z.natAbs D;generalize Nat.gcd z.natAbs D=g at *;rw[h];have hk2:z.natAbs/g=k:=by rw[hk];exact Nat.mul_div_cancel_left _ hg
 rw[hk2]
 rcases Int.lt_or_le z 0 with hz|hz
 ·have e:z=-((g:Int)*(k:Int)):=by rw[←Int.natCast_mul,←hk];omega
  have hk0:0<k:=by
   rcases Nat.eq_zero_or_pos k with h|h
   ·rw[h] at hk;simp at hk;omega
   exact h
  have e2:z/(g:Int)=-(k:Int):=by
   rw[e,←Int.mul_neg];exact Int.mul_ediv_cancel_left _ xq
  rw[e2];exact⟨by omega,by omega⟩
 have e:z=(g:Int)*(k:Int):=by rw[←Int.natCast_mul,←hk];omega
 have e2:z/(g:Int)=(k:Int):=by rw[e];exact Int.mul_ediv_cancel_left _ xq
 rw[e2];exact⟨by omega,by omega⟩
theorem mk_gcd(N D:Nat):Nat.gcd D (N%D)=Nat.gcd N D:=by rw[Nat.gcd_comm N D,Nat.gcd_rec D N,Nat.gcd_comm]
def rs(q:Rat):Nat:=max (dl q.num.natAbs) (dl q.den)
theorem rs_mk{z:Int}{D K:Nat}(hz:dl z.natAbs≤K)(hd:dl D≤K)(hK:1≤K):rs (mkRat z D)≤K:=by
 rcases Nat.eq_zero_or_pos D with h|h
 ·rw[h,Rat.mkRat_zero]
  unfold rs
  rw[show(0:Rat).num.natAbs=0 from rfl,show(0:Rat).den=1 from rfl,dl_zero,dl_one]
  omega
 unfold rs
 have h1:dl (mkRat z D).num.natAbs≤dl z.natAbs:=by rw[(mk_num h).1];exact dl_mono (Nat.div_le_self _ _)
 have h2:dl (mkRat z D).den≤dl D:=by rw[(mk_den h).1];exact dl_mono (Nat.div_le_self _ _)
 omega
theorem den_pos(q:Rat):0<q.den:=Nat.pos_of_ne_zero q.den_nz
theorem rs_pos(q:Rat):1≤rs q:=by
 unfold rs
 have:=dl_mono (den_pos q);rw[show Nat.succ 0=1 from rfl,dl_one] at this
 omega
def cmpQ(x y:Rat):Int:=if x<y then -1 else if x=y then 0 else 1
theorem cmp_nat0{D:Nat}{b:Bool}(h:(cmpS (D:Int) 0==0)=b):(b=true→D=0)∧(b=false→0<D):=by
 unfold cmpS at h
 by_cases h0:D=0
 ·subst h0;simp at h;subst h;simp
 rw[if_neg xq,if_neg xq] at h
 simp at h;subst h;simp;omega
theorem cmp_natE{D E:Nat}(h:(cmpS (D:Int) (E:Int)==0)=true):D=E:=by
 unfold cmpS at h
 by_cases h1:(D:Int)<E
 ·simp only[h1,if_true] at h;simp at h
 by_cases h2:(D:Int)=E
 ·omega
 simp only[h1,h2,if_false] at h;simp at h
theorem cmp_eq0{z:Int}(h:(cmpS z 0==0)=true):z=0:=by
 unfold cmpS at h
 by_cases h1:z<0
 ·simp only[h1,if_true] at h;simp at h
 by_cases h2:z=0
 ·exact h2
 simp only[h1,h2,if_false] at h;simp at h
theorem cmp_ne0{z:Int}(h:(cmpS z 0==0)=false):z≠0:=by
 rintro rfl;simp[cmpS] at h
theorem mk_lt{a c:Int}{b d:Nat}(hb:0<b)(hd:0<d):(mkRat a b<mkRat c d↔a*d<c*b)∧(mkRat a b=mkRat c d↔a*d=c*b):=by
 have e:mkRat a b=mkRat c d↔a*d=c*b:=Rat.mkRat_eq_iff xq xq;refine⟨?_,e⟩;have hb':(0:Rat)<(b:Rat):=Rat.natCast_pos.2 hb;have hd':(0:Rat)<(d:Rat):=Rat.natCast_pos.2 hd;rw[Rat.mkRat_eq_div,Rat.mkRat_eq_div,Rat.div_lt_iff hb'];have e2:(c:Rat)/(d:Rat)*(b:Rat)=(c*b:Rat)/d:=by rw[Rat.div_def,Rat.div_def];grind
 rw[e2,Rat.lt_div_iff hd'];have e3:(a:Rat)*((d:Nat):Rat)=((a*d:Int):Rat):=by rw[Rat.intCast_mul];rfl
 have e4:(c:Rat)*((b:Nat):Rat)=((c*b:Int):Rat):=by rw[Rat.intCast_mul];rfl
 rw[e3,e4,Rat.intCast_lt_intCast]
theorem cmp_mk{a c:Int}{b d:Nat}(hb:0<b)(hd:0<d):cmpS (a*d) (c*b)=cmpQ (mkRat a b) (mkRat c d):=by
 obtain⟨h1,h2⟩:=mk_lt (a:=a) (c:=c) hb hd
 unfold cmpS cmpQ
 simp only[h1,h2]
theorem add_mk{a c:Int}{b d:Nat}(hb:0<b)(hd:0<d):mkRat (a*d+c*b) (b*d)=mkRat a b+mkRat c d:=(Rat.mkRat_add_mkRat a c xq xq).symm
theorem add_same{a c:Int}{b:Nat}(hb:0<b):mkRat (a+c) b=mkRat a b+mkRat c b:=by
 rw[←add_mk hb hb,←Int.add_mul,←Rat.mkRat_mul_right (a:=b) xq]
theorem mul_mk{a c:Int}{b d:Nat}:mkRat (a*c) (b*d)=mkRat a b*mkRat c d:=(Rat.mkRat_mul_mkRat a c b d).symm
theorem mk_one(a:Int):mkRat a 1=(a:Rat):=by rw[Rat.mkRat_eq_div];show(a:Rat)/((1:Nat):Rat)=a;grind
theorem neg_mk{a:Int}{b:Nat}:mkRat (-a) b=-mkRat a b:=(Rat.neg_mkRat a b).symm
def sgQ(x:Rat):Int:=cmpQ x 0
theorem sg_mk{a:Int}{b:Nat}(hb:0<b):cmpS a 0=sgQ (mkRat a b):=by
 have:=cmp_mk (a:=a) (c:=0) (b:=b) (d:=1) hb xq;rw[Rat.zero_mkRat] at this
 unfold sgQ
 rw[←this]
 congr 1<;>omega
def absQ(x:Rat):Rat:=if x<0 then -x else x
theorem abs_mk{a:Int}{b:Nat}:mkRat (a.natAbs:Int) b=absQ (mkRat a b):=by
 rcases Nat.eq_zero_or_pos b with h|h
 ·subst h;simp[absQ]
 have h1:=(mk_lt (a:=a) (c:=0) (b:=b) (d:=1) h xq).1;rw[Rat.zero_mkRat] at h1
 unfold absQ
 by_cases ha:a<0
 ·rw[if_pos (h1.2 xq),←neg_mk]
  congr 1;omega
 rw[if_neg (fun k=>by have:=h1.1 k;omega)]
 congr 1;omega
def quoI(x y:Int):Int:=if decide (x<0)==decide (y<0) then(x.natAbs:Int) else -(x.natAbs:Int)
theorem quoI_abs(x y:Int):(quoI x y).natAbs=x.natAbs:=by unfold quoI;split<;>omega
theorem div_mk2{x y:Int}(hy:y≠0):mkRat (quoI x y) y.natAbs=(x:Rat)/(y:Rat):=by
 unfold quoI
 rw[←Rat.divInt_eq_div,←Rat.divInt_ofNat]
 by_cases hx:x<0<;>by_cases hy':y<0
 ·rw[if_pos (by simp[hx,hy']),←Rat.neg_divInt_neg x y,show((x.natAbs:Nat):Int)=-x by omega,show((y.natAbs:Nat):Int)=-y by omega]
 ·rw[if_neg (by simp[hx,hy']),show((x.natAbs:Nat):Int)=-x by omega,show((y.natAbs:Nat):Int)=y by omega,Int.neg_neg]
 ·rw[if_neg (by simp[hx,hy']),←Rat.neg_divInt_neg x y,show((x.natAbs:Nat):Int)=x by omega,show((y.natAbs:Nat):Int)=-y by omega]
 rw[if_pos (by simp[hx,hy']),show((x.natAbs:Nat):Int)=x by omega,show((y.natAbs:Nat):Int)=y by omega]
theorem quo_mk{a c:Int}{b d:Nat}(hb:0<b)(hd:0<d)(hc:c≠0):((a*d:Int):Rat)/((b*c:Int):Rat)=mkRat a b/mkRat c d:=by
 have hb':(b:Rat)≠0:=Ne.symm (Rat.ne_of_lt (Rat.natCast_pos.2 hb));have hd':(d:Rat)≠0:=Ne.symm (Rat.ne_of_lt (Rat.natCast_pos.2 hd));have hc':(c:Rat)≠0:=fun h=>hc (by have:(c:Rat)=((0:Int):Rat):=h;exact Rat.intCast_inj.1 this);rw[Rat.mkRat_eq_div,Rat.mkRat_eq_div,Rat.intCast_mul,Rat.intCast_mul];show(a:Rat)*(d:Rat)/((b:Rat)*(c:Rat))=_
 grind
end Nt
def RatV(u:World)(r:RL)(q:Rat)(K:Nat):Prop:=(∃z D,IntV u ⟨r.s,r.m⟩ z K∧NatV u r.d D K∧q=mkRat z D)∧1≤K
def RatN(u:World)(r:RL)(q:Rat)(K:Nat):Prop:=IntN u ⟨r.s,r.m⟩ q.num K∧NatN u r.d q.den K
theorem zRc{u:World}{r:RL}{a b:Rat}{K:Nat}(h:RatN u r a K)(e:a=b):RatN u r b K:=e ▸ h
section
variable {u u' w w':World} {x y:Sl} {i j:IL} {r:RL} {N M K L:Nat} {z z':Int} {q:Rat}
theorem RatV.ext(h:RatV u r q K)(e:Ext u u'):RatV u' r q K:=by
 obtain⟨⟨z,D,h1,h2,h3⟩,h4⟩:=h;exact⟨⟨z,D,h1.ext e,h2.ext e,h3⟩,h4⟩
theorem RatN.ext(h:RatN u r q K)(e:Ext u u'):RatN u' r q K:=⟨h.1.ext e,h.2.ext e⟩
theorem RatN.more(h:RatN u r q K)(k:K≤L):RatN u r q L:=⟨h.1.more k,h.2.more k⟩
theorem RatN.rs(h:RatN u r q K):Nt.rs q≤K:=by
 have h1:=h.1.2.2.2;have h2:=h.2.2.2
 unfold Nt.rs;omega
theorem RatN.fit(h:RatN u r q K)(k:Nt.rs q≤L):RatN u r q L:=by
 unfold Nt.rs at k
 exact⟨⟨h.1.1,h.1.2.1,h.1.2.2.1,by omega⟩,h.2.1,h.2.2.1,by omega⟩
theorem RatN.raw(h:RatN u r q K):RatV u r q K:=⟨⟨q.num,q.den,h.1.raw,h.2.raw,(Rat.mkRat_self q).symm⟩,by have:=rs_pos q;have:=h.rs;omega⟩
theorem RatV.rs(h:RatV u r q K):Nt.rs q≤K:=by
 obtain⟨⟨z,D,h1,h2,h3⟩,h4⟩:=h;rw[h3];exact rs_mk h1.size h2.size h4
def NumV(u:World)(r:RL)(wh:Bool)(q:Rat)(K:Nat):Prop:=∃z D,IntV u ⟨r.s,r.m⟩ z K∧NatV u r.d D K∧0<D∧q=mkRat z D∧(wh=true→D=1)∧1≤K
theorem quot_int{L:Nat}(h:IntN u i z K)(h2:IntN u j z' L):IntV u ⟨!(i.s==j.s),i.m⟩ (quoI z z') K:=by
 refine⟨z.natAbs,h.2.raw,?_⟩;show quoI z z'=Nt.sg (!(i.s==j.s)) _;rw[h.1,h2.1]
 unfold quoI Nt.sg
 cases (decide (z<0)==decide (z'<0))<;>rfl
theorem flip_rat(h:RatV u r q K):RatV u ⟨!r.s,r.m,r.d⟩ (-q) K:=by
 obtain⟨⟨z,D,⟨N,h1,h2⟩,h3,h4⟩,h5⟩:=h;refine⟨⟨-z,D,⟨N,h1,?_⟩,h3,by rw[h4,neg_mk]⟩,h5⟩;rw[h2];exact(sg_neg _ _).symm
theorem abs_rat(h:RatV u r q K):RatV u ⟨false,r.m,r.d⟩ (absQ q) K:=by
 obtain⟨⟨z,D,⟨N,h1,h2⟩,h3,h4⟩,h5⟩:=h;refine⟨⟨z.natAbs,D,⟨N,h1,?_⟩,h3,by rw[h4,abs_mk]⟩,h5⟩;rw[h2,sg_abs];rfl
theorem whole_rat(h:IntN u i z K)(h1:NatN u y 1 L):RatN u ⟨i.s,i.m,y⟩ (z:Rat) (max K L):=by
 refine⟨?_,?_⟩
 ·show IntN u i (z:Rat).num _;rw[Rat.num_intCast];exact h.more (Nat.le_max_left _ _)
 show NatN u y (z:Rat).den _;rw[Rat.den_intCast];exact h1.more (Nat.le_max_right _ _)
theorem rat_mk2{s:Bool}{D:Nat}(hi:IntV u ⟨s,x⟩ z K)(hd:NatV u y D L):RatV u ⟨s,x,y⟩ (mkRat z D) (max (max K L) 1):=
 ⟨⟨z,D,hi.more xq,hd.more xq,rfl⟩,by omega⟩
theorem low1{s:Bool}{D:Nat}(hD:0<D)(h:N%D=0):((Nt.sg s (N/D):Int):Rat)=mkRat (Nt.sg s N) D:=by
 obtain⟨k,hk⟩:=Nat.dvd_of_mod_eq_zero h;subst hk;rw[Nat.mul_div_cancel_left _ hD,←mk_one,Rat.mkRat_eq_iff xq xq]
 unfold Nt.sg
 cases s
 ·simp[Int.mul_comm]
 simp[Int.mul_comm,Int.mul_neg]
theorem low2{s:Bool}{D:Nat}(hD:0<D)(hg:Nat.gcd D (N%D)=1)(h1:IntN u i (Nt.sg s N) K)(h2:NatN u y D L):RatN u ⟨i.s,i.m,y⟩ (mkRat (Nt.sg s N) D) (max K L):=by
 rw[mk_gcd] at hg;have hg':Nat.gcd (Nt.sg s N).natAbs D=1:=by rw[sg_abs];exact hg
 have e1:=(mk_den (z:=Nt.sg s N) hD).1;have e2:=(mk_den (z:=Nt.sg s N) hD).2;rw[hg',Nat.div_one] at e1;rw[hg'] at e2
 simp at e2
 refine⟨?_,?_⟩
 ·show IntN u i _ _;rw[e2];exact h1.more (Nat.le_max_left _ _)
 show NatN u y _ _;rw[e1];exact h2.more (Nat.le_max_right _ _)
theorem low3{s:Bool}{D:Nat}(hD:0<D)(hr:N%D≠0)(h1:NatN u x (N/Nat.gcd D (N%D)) K)(h2:NatN u y (D/Nat.gcd D (N%D)) L):RatN u ⟨s,x,y⟩ (mkRat (Nt.sg s N) D) (max K L):=by
 rw[mk_gcd] at h1 h2;have e1:=(mk_den (z:=Nt.sg s N) hD).1;have e2:=mk_num (z:=Nt.sg s N) hD;rw[sg_abs] at e1 e2;refine⟨⟨?_,?_⟩,?_⟩
 ·have hN:0<N:=by
   rcases Nat.eq_zero_or_pos N with h|h
   ·rw[h] at hr;simp at hr
   exact h
  have e3:decide ((mkRat (Nt.sg s N) D).num<0)=decide (Nt.sg s N<0):=decide_eq_decide.2 e2.2;show s=decide _;rw[e3]
  unfold Nt.sg
  cases s<;>simp<;>omega
 ·show NatN u x _ _;rw[e2.1];exact h1.more (Nat.le_max_left _ _)
 show NatN u y _ _;rw[e1];exact h2.more (Nat.le_max_right _ _)
end
def St.own(S:St)(d:Tmp)(V:Vr)(n c:Nat):St:=⟨S.n,upd S.reg d (some (.slc d 0 n c)),upd S.var d (some V)⟩
def hide(u w':World):World:={ u with heap:=u.heap++Array.replicate (w'.heap.size-u.heap.size) hidO }
section
variable {P:Program} {ops:Array Oper} {w0:Base} {u0:World} {S T:St} {B:Tmp→Nat} {a:Act} {w w' u u':World} {o:Oper} {p:List Tmp} {seq:Bool} {rest:List (Oper×List Tmp)} {K:St→World→Prop}
theorem zwq(h:u.heap.size≤w'.heap.size):(hide u w').heap.size=w'.heap.size:=by simp[hide];omega
theorem hide_old{b:Nat}(h:b<u.heap.size):(hide u w').heap[b]? = u.heap[b]? := by
 simp only[hide];rw[Array.getElem?_append_left h]
theorem hide_new{b:Nat}(h:u.heap.size≤b)(h2:b<w'.heap.size):(hide u w').heap[b]? = some hidO:=by
 simp only[hide];rw[Array.getElem?_append_right h,Array.getElem?_replicate,if_pos xq]
theorem hide_grow(h:u.heap.size≤w'.heap.size):Grow u (hide u w'):=⟨by rw[zwq h];exact h,fun b hb=>hide_old hb⟩
theorem zwe{pubs:List Tmp}{r:Tmp}{x:SV}(h:(S.unpub pubs).reg r=some x):S.reg r=some x∧r∉pubs:=by
 simp only[St.unpub] at h
 cases e:pubs.contains r with
 | true=>rw[e] at h;cases h
 | false=>rw[e] at h;exact⟨h,fun hm=>by rw[List.contains_iff_mem.2 hm] at e;cases e⟩
theorem zxn{pubs:List Tmp}{r:Tmp}{x:Vr}(h:(S.unpub pubs).var r=some x):S.var r=some x∧r∉pubs:=by
 simp only[St.unpub] at h
 cases e:pubs.contains r with
 | true=>rw[e] at h;cases h
 | false=>rw[e] at h;exact⟨h,fun hm=>by rw[List.contains_iff_mem.2 hm] at e;cases e⟩
theorem Rep.grown(h:Rep w0 u0 S B a w u){pubs:List Tmp}(hno:NoAt S pubs){row:Option Nat}(hrow:∀b,row=some b→∃t∈pubs,t<S.n∧∃V,S.var t=some V∧B t=b)(hg:w.grownBy w' row)
  {d:Tmp} {V:Vr} {g n c:Nat} (hd:d<S.n) (hdv:S.var d=none∨d∈pubs) (hgv:w'.heap[g]? = some (.cells V.cs.toArray V.ty (0,0))) (hgo:row=some g∨g=w.heap.size) :
  Rep w0 u0 ((S.unpub pubs).own d V n c) (setB B d g) (a.put (some d) (.slice (some ⟨g,0,none⟩) n c)) w' (hide u w'):=by
 have hus:u.heap.size=w.heap.size:=h.dat.size;have hsz:u.heap.size≤w'.heap.size:=by rw[hus];exact hg.size
 have hrowu:∀b,row=some b→u.heap[b]? = some hidO∧u0.heap.size≤b∧b<w.heap.size:=fun b hb=>by
  obtain⟨t,_,hlt,V',hV,rfl⟩:=hrow b hb;exact⟨(h.var t V' hV).2.1,(h.var t V' hV).2.2.1 hlt,h.lt hV⟩
 have hat:∀r x,S.reg r=some x→r∉pubs→x.at? ≠ some d:=fun r x hx hr e=>by
  obtain⟨V',hV'⟩:=h.wf.reg r x d hx e
  rcases hdv with hdv|hdv
  ·rw[hdv] at hV';cases hV'
  exact hr (hno r x d hx e hdv)
 refine⟨⟨fun r x hx=>?_,by rw[Act.put_size];exact h.regs.size⟩,⟨fun r x t hx ht=>?_⟩,by rw[put_defers];exact h.defers,fun t V' hV=>?_,fun t t' V1 V2 h1 h2 e=>?_,⟨zwq hsz,fun b o hb hh=>?_⟩,h.base,h.grow.trans (hide_grow hsz),?_⟩
 ·by_cases e:r=d
  ·subst e
   simp only[St.own,zxb] at hx
   injection hx with hx
   subst hx;rw[Act.put_get_same _ _ (by rw[h.regs.size];exact hd)]
   simp[SV.conc,setB]
  simp only[St.own,upd_ne _ _ e] at hx
  obtain⟨k1,k2⟩:=zwe hx;rw[Act.put_get_ne _ _ (fun k=>e (by injection k with k;exact k.symm)),conc_setB (hat r x k1 k2)];exact h.regs.reg r x k1
 ·show ∃V',upd (S.unpub pubs).var d (some V) t=some V'
  by_cases e:t=d
  ·subst e;exact⟨V,zxb _ _ _⟩
  rw[upd_ne _ _ e]
  by_cases e2:r=d
  ·subst e2
   simp only[St.own,zxb] at hx
   injection hx with hx
   subst hx
   injection ht with ht;exact absurd ht.symm e
  simp only[St.own,upd_ne _ _ e2] at hx
  obtain⟨k1,k2⟩:=zwe hx;obtain⟨V',hV'⟩:=h.wf.reg r x t k1 ht;have hnt:t∉pubs:=fun hm=>k2 (hno r x t k1 ht hm);exact⟨V',by rw[unpub_var hnt];exact hV'⟩
 ·by_cases e:t=d
  ·subst e
   simp only[St.own,zxb] at hV
   injection hV with hV
   subst hV;rw[show setB B t g t=g by simp[setB]];refine⟨hgv,?_,?_⟩
   ·rcases hgo with hgo|hgo
    ·obtain⟨k1,_,k3⟩:=hrowu g hgo;rw[hide_old xq];exact k1
    exact hide_new xq (zyz hgv)
   refine .mk0 hd ?_
   rcases hgo with hgo|hgo
   ·exact(hrowu g hgo).2.1
   have:=h.grow.size;omega
  simp only[St.own,upd_ne _ _ e] at hV
  obtain⟨k1,k2⟩:=zxn hV;obtain⟨g1,g2,g3⟩:=h.var t V' k1;rw[show setB B d g t=B t by simp[setB,e]];refine⟨?_,by rw[hide_old (zyz g2)];exact g2,g3⟩;rw[hg.block _ (h.lt k1) ?_]
  ·exact g1
  intro hb;obtain⟨s,hs,_,Vs,hVs,he⟩:=hrow _ hb.symm;exact k2 (h.inj s t Vs V' hVs k1 he ▸ hs)
 ·have key:∀t V1,(((S.unpub pubs).own d V n c)).var t=some V1→t≠d→S.var t=some V1∧t∉pubs:=fun t V1 hV e=>by
   simp only[St.own,upd_ne _ _ e] at hV;exact zxn hV
  have hgt:∀t V1,S.var t=some V1→t∉pubs→B t≠g:=fun t V1 hV hn e=>by
   rcases hgo with hgo|hgo
   ·obtain⟨s,hs,_,Vs,hVs,he⟩:=hrow g hgo;exact hn (h.inj s t Vs V1 hVs hV (he.trans e.symm) ▸ hs)
   have:=h.lt hV;omega
  by_cases e1:t=d
  ·by_cases e2:t'=d
   ·rw[e1,e2]
   obtain⟨k1,k2⟩:=key t' V2 h2 e2
   simp[setB,e1,e2] at e
   exact absurd e.symm (hgt t' V2 k1 k2)
  obtain⟨k1,k2⟩:=key t V1 h1 e1
  by_cases e2:t'=d
  ·simp[setB,e1,e2] at e
   exact absurd e (hgt t V1 k1 k2)
  obtain⟨k3,k4⟩:=key t' V2 h2 e2
  simp[setB,e1,e2] at e
  exact h.inj t t' V1 V2 k1 k3 e
 ·rcases Nat.lt_or_ge b u.heap.size with hlt|hge
  ·rw[hide_old hlt] at hb;rw[hg.block b xq (fun hc=>?_)]
   ·exact h.dat.vis b o hb hh
   obtain⟨k1,_⟩:=hrowu b hc.symm;rw[k1] at hb;injection hb with hb;exact hh hb.symm
  have hlt:=zyz hb;rw[zwq hsz] at hlt;rw[hide_new hge hlt] at hb;injection hb with hb;exact absurd hb.symm hh
 refine h.bel.trans ⟨hg.os,hg.tape,hg.output,hg.size,fun k hk=>hg.block k ?_ (fun hc=>?_)⟩
 ·have h1:=h.bel.size;omega
 obtain⟨_,k2,_⟩:=hrowu k hc.symm;have:=h.base;omega
theorem run_app{T E:TypeId}{z:Value}{size bytes:Nat}(hT:P.underlying T=some (.slice E))(hi:(P.info? E).map (fun i=>(i.zero,i.size,i.bytes))=some (some z,size,bytes))(hzs:z.cells.size=size)(hsz:0<size)
  {v:Value} {n:Nat} {xs:List Value} (hown:w.ownsRow u0.heap.size E size v n xs) {ad:Addr} {m c:Nat} {news:List Value} (hl:news.length=m*size) (hnews:∀j x,news[j]? = some x→w.cell? (ad.add j)=some x) (h1:∀x∈news,x.oneCell'=true)
  (hm:0<m) (h63:n+m≤maxLen) (hbytes:(n+m)*bytes≤140737488355328) (hb:u0.heap.size≤w.heap.size) (ty:TypeId) :
  ∃g c1 cs w',(Builtin.append_ #[T,T] ty #[v,.slice (some ad) m c]).run P w=.ok (.slice (some ⟨g,0,none⟩) (n+m) c1) w'∧w'.heap[g]? = some (.cells cs E (0,0))∧n+m≤c1∧c1≤maxLen∧cs.toList.length=c1*size∧cs.toList.take ((n+m)*size)=xs++news ∧
   w.grownBy w' v.ownBlock∧(v.ownBlock=some g∨g=w.heap.size):=by
 obtain⟨i,hi1,hz,hs,hby⟩:=info_parts hi;obtain⟨v',w',hrun,g1,g2,g3,g4⟩:=run_append_own_at (P:=P) w u0.heap.size T ty E i z size bytes hT hi1 hz hs hby hzs hsz v n xs hown ad m c news hl hnews h1 h63 hbytes hb
 rcases g1.2 with ⟨he,hn⟩|⟨g,cap,cur,he,hg,hh,hc,hm',hcs,ht⟩
 ·omega
 subst he;refine⟨g,cap,cur,w',hrun,hh,hc,hm',by simpa using hcs,ht,g2,?_⟩
 rcases g4 with g4|g4
 ·exact .inl g4.symm
 injection g4 with g4;exact .inr g4
theorem ev_of{x:Operand}{y:SV}(hr:RegOK S B a)(h:evO S x=some y):a.eval x=y.conc B:=ev_eval hr h
theorem sy_app0(d:Tmp){T E:TypeId}{s x:Operand}{z:Value}{size bytes:Nat}{b off m c:Nat}(news:List Value)(hT:P.underlying T=some (.slice E))(hi:(P.info? E).map (fun i=>(i.zero,i.size,i.bytes))=some (some z,size,bytes))(hzs:z.cells.size=size)(hsz:0<size)
  (hl:news.length=m*size) (hnews:∀j v,news[j]? = some v→u.cell? ⟨b,off+j,none⟩=some v) (h1:∀v∈news,v.oneCell'=true) (hm:0<m) (h63:m≤maxLen) (hbytes:m*bytes≤140737488355328)
  (k:∀c1 cs,m≤c1→c1≤maxLen→cs.length=c1*size→cs.take (m*size)=news→sym P ops w0 u0 true rest (S.own d ⟨E,cs⟩ m c1) u K)
  (hw:Wants ops o S:=by exact zwf xj) (hd:o.dst=some d:=by kernel_rfl) (hop:o.op=.call { callee:=.builtin .append,args:=#[s,x],argTypes:=#[T,T] }:=by rfl) (hf:(freeB S d&&(S.var d).isNone)=true:=by kernel_rfl)
  (hs:evO S s=some (.v (qyn)):=by rfl) (hx:evO S x=some (.v (.slice (some ⟨b,off,none⟩) m c)):=by rfl):sym P ops w0 u0 true ((o,p)::rest) S u K:=by
 simp only[Bool.and_eq_true,Option.isNone_iff_eq_none] at hf
 refine .inr (.inr (.inl ⟨.inl rfl,fun B a w u' he hrep=>⟨hw B a hrep.regs,?_⟩⟩));obtain⟨g,c1,cs,w',hrun,hgv,k1,k2,k3,k4,k5,k6⟩:=run_app (P:=P) (u0:=u0) (w:=w) (v:=qyn) (n:=0) (xs:=[]) (ad:=⟨b,off,none⟩) (c:=c) hT hi hzs hsz ⟨by simp,.inl ⟨rfl,rfl⟩⟩ hl (fun j v hv=>by rw[addr_add];exact hrep.dat.ext.cell (he.cell (hnews j v hv))) h1 hm xq (by simpa using hbytes) (by rw[←hrep.dat.size];exact hrep.grow.size) o.type;rw[Nat.zero_add] at hrun k1 k4
 unfold Oper.wp execOp
 simp only[hop,resolve,invoke,builtin,Sem.run_bind,Sem.run_pure,Result.andThen_ok,List.map_toArray,List.map_cons,List.map_nil,ev_of hrep.regs hs,ev_of hrep.regs hx,SV.conc,hrun]
 have hr2:=hrep.grown (pubs:=[]) (fun r x t _ _ h=>by cases h) (row:=none) (fun b h=>by cases h) k5 (d:=d) (V:=⟨E,cs.toList⟩) (g:=g) (n:=m) (c:=c1) (zxx hd hf.1 d hd).1 (.inl hf.2) (by simpa using hgv) (k6.imp (fun h=>by cases h) id);rw[unpub_nil] at hr2;have hsz2:u'.heap.size≤w'.heap.size:=by rw[hrep.dat.size];exact k5.size
 show ∃S' B' u'' u2,Rep w0 u0 S' B' (a.put o.dst _) w' u''∧_;rw[hd];exact⟨_,_,_,u,hr2,fun _=>(hide_grow hsz2).ext,fun _=>Ext.refl _,he.trans (hide_grow hsz2).ext,k c1 cs.toList k1 k2 k3 (by simpa using k4)⟩
theorem sy_app1(d:Tmp){T E:TypeId}{s x:Operand}{z:Value}{size bytes:Nat}{b off m c t n cap:Nat}{cs0:List Value}(pubs:List Tmp)(news:List Value)(hT:P.underlying T=some (.slice E))(hi:(P.info? E).map (fun i=>(i.zero,i.size,i.bytes))=some (some z,size,bytes))(hzs:z.cells.size=size)(hsz:0<size)
  (hl:news.length=m*size) (hnews:∀j v,news[j]? = some v→u.cell? ⟨b,off+j,none⟩=some v) (h1:∀v∈news,v.oneCell'=true) (hm:0<m) (h63:n+m≤maxLen) (hbytes:(n+m)*bytes≤140737488355328)
  (hn:n≤cap) (hcap:cap≤maxLen) (hcl:cs0.length=cap*size) (hno:NoAt S pubs)
  (k:∀c1 cs,n+m≤c1→c1≤maxLen→cs.length=c1*size→cs.take ((n+m)*size)=cs0.take (n*size)++news→sym P ops w0 u0 true rest ((S.unpub pubs).own d ⟨E,cs⟩ (n+m) c1) u K)
  (hw:Wants ops o S:=by exact zwf xj) (hd:o.dst=some d:=by kernel_rfl) (hop:o.op=.call { callee:=.builtin .append,args:=#[s,x],argTypes:=#[T,T] }:=by rfl) (hf:(Nat.blt d S.n&&((S.var d).isNone||pubs.contains d)&&pubs.contains t&&Nat.blt t S.n)=true:=by kernel_rfl)
  (hs:evO S s=some (.slc t 0 n cap):=by rfl) (hv:S.var t=some ⟨E,cs0⟩:=by rfl) (hx:evO S x=some (.v (.slice (some ⟨b,off,none⟩) m c)):=by rfl):sym P ops w0 u0 true ((o,p)::rest) S u K:=by
 simp only[Bool.and_eq_true,Bool.or_eq_true,Option.isNone_iff_eq_none,List.contains_iff_mem] at hf
 refine .inr (.inr (.inl ⟨.inl rfl,fun B a w u' he hrep=>⟨hw B a hrep.regs,?_⟩⟩));have htn:t<S.n:=Nat.le_of_ble_eq_true hf.2;obtain⟨v1,v2,v3⟩:=hrep.var t _ hv;have v3:=v3.1 htn
 obtain⟨g,c1,cs,w',hrun,hgv,k1,k2,k3,k4,k5,k6⟩:=run_app (P:=P) (u0:=u0) (w:=w) (v:=.slice (some ⟨B t,0,none⟩) n cap) (n:=n) (xs:=cs0.take (n*size)) (ad:=⟨b,off,none⟩) (c:=c) hT hi hzs hsz
  ⟨by rw[List.length_take,hcl];exact Nat.min_eq_left (Nat.mul_le_mul_right _ hn),.inr ⟨B t,cap,cs0.toArray,rfl,v3,v1,hn,hcap,by simpa using hcl,by simp⟩⟩ hl (fun j v hv=>by rw[addr_add];exact hrep.dat.ext.cell (he.cell (hnews j v hv))) h1 hm h63 hbytes (by rw[←hrep.dat.size];exact hrep.grow.size) o.type
 unfold Oper.wp execOp
 simp only[hop,resolve,invoke,builtin,Sem.run_bind,Sem.run_pure,Result.andThen_ok,List.map_toArray,List.map_cons,List.map_nil,ev_of hrep.regs hs,ev_of hrep.regs hx,SV.conc,hrun]
 have hr2:=hrep.grown hno (row:=some (B t)) (fun b h=>by injection h with h;exact⟨t,hf.1.2,htn,_,hv,h⟩) k5 (d:=d) (V:=⟨E,cs.toList⟩) (g:=g) (n:=n+m) (c:=c1) (Nat.le_of_ble_eq_true hf.1.1.1) hf.1.1.2 (by simpa using hgv) k6;have hsz2:u'.heap.size≤w'.heap.size:=by rw[hrep.dat.size];exact k5.size
 show ∃S' B' u'' u2,Rep w0 u0 S' B' (a.put o.dst _) w' u''∧_;rw[hd];exact⟨_,_,_,u,hr2,fun _=>(hide_grow hsz2).ext,fun _=>Ext.refl _,he.trans (hide_grow hsz2).ext,k c1 cs.toList k1 k2 k3 k4⟩
theorem makes{T E:TypeId}{x y:Operand}{z:Value}{size bytes:Nat}{k1 k2:IntKind}(n:Nat)(hT:P.underlying T=some (.slice E))(hi:(P.info? E).map (fun i=>(i.zero,i.size,i.bytes))=some (some z,size,bytes))(hb:bytes*n≤281474976710656)(h63:n≤maxLen)(hop:o.op=.makeSlice T x y)
  (hx:evO S x=some (.v (.int k1 n))) (hy:evO S y=some (.v (.int k2 n))) (hr:RegOK S B a):(execOp a.eval o).run P w=.ok (.value (.slice (some ⟨w.heap.size,0,none⟩) n n)) (w.alloc (.cells (madeCells z.cells (n*size)) E)):=by
 obtain⟨inf,hi1,hz,hs,hby⟩:=info_parts hi;have h63':(n:Int)≤9223372036854775807:=by unfold maxLen at h63;omega
 have hb':(inf.bytes:Int)*(n:Int)≤281474976710656:=by
  have h:((inf.bytes*n:Nat):Int)≤281474976710656:=by rw[hby];omega
  rwa [Int.natCast_mul] at h
 have hrun:=run_make (P:=P) w T E inf z hT hi1 hz k1 k2 n n xq (Int.le_refl _) hb' h63';have e1:(execOp a.eval o).run P w=(do pure (Next.value (←Instr.makeSlice T (a.eval x) (a.eval y))):Sem Next).run P w:=by unfold execOp;rw[hop]
 rw[e1,ev_of hr hx,ev_of hr hy];rw[hs] at hrun;exact run_val (by simpa[SV.conc] using hrun)
theorem zyv(d:Tmp){T:TypeId}{r t:Tmp}{ix:Operand}{off n c sz off':Nat}{kk:IntKind}{i:Int}(hT:SlIs P T sz)(h0:0≤i)(h1:i<n)(ho:off+i.toNat*sz=off')(k:sym P ops w0 u0 seq rest (S.set d (.adr t off')) u K)(hw:Wants ops o S:=by exact zwf xj)(hd:o.dst=some d:=by kernel_rfl)(hop:o.op=.indexAddr T (.tmp r) ix:=by rfl)(hf:freeB S d=true:=by kernel_rfl)
  (hx:S.reg r=some (.slc t off n c):=by rfl) (hi:evO S ix=some (.v (.int kk i)):=by rfl):sym P ops w0 u0 seq ((o,p)::rest) S u K:=by
 subst ho;have hl:r∈o.looksAt ops:=List.mem_append_left _ (List.mem_filterMap.2 ⟨.tmp r,by rw[hop];simp[Op.operands],rfl⟩);refine .inl ⟨by rw[hop];exact(by decide:(0:Nat)≠2),.set (.adr t (off+i.toNat*sz)),⟨zxx hd hf,.inl ⟨(fun s hs=>⟨r,hl,_,hx,hs⟩),fun B a w u' hr he hdt=>⟨hw B a hr,?_⟩⟩⟩,?_⟩
 ·have e1:(execOp a.eval o).run P w=(do pure (Next.value (←Instr.indexAt T (a.eval (.tmp r)) (a.eval ix))):Sem Next).run P w:=by unfold execOp;rw[hop]
  rw[e1,hr.eval hx,ev_of hr hi];exact run_val (run_index hT h0 h1)
 show sym P ops w0 u0 seq rest (S.put o.dst (some _)) u K;rw[hd];exact k
theorem zyu{T:TypeId}{r s:Tmp}{z:Operand}{off:Nat}{V:Vr}(cs':List Value){v:Value}{agg:Bool}{n:Nat}(hT:TyIs P T agg n)(hle:off+n≤V.cs.length)(hV:setL V.cs off v.cells.toList=cs')(k:sym P ops w0 u0 seq rest (S.setVar s ⟨V.ty,cs'⟩) u K)(hw:Wants ops o S:=by exact zwf xj)(hd:o.dst=none:=by kernel_rfl)(hop:o.op=.store T (.tmp r) z:=by rfl)(hr:S.reg r=some (.adr s off):=by rfl)(hv:S.var s=some V:=by rfl)(hz:evO S z=some (.v v):=by rfl)
  (hn:v.cells.size=n:=by kernel_rfl) (hone:v.cells.toList.all Value.oneCell'=true:=by kernel_rfl) (hnl:(p.all fun r'=>match S.reg r' with|some (.adr t _) => !Nat.beq t s|_=>true)=true:=by kernel_rfl):sym P ops w0 u0 seq ((o,p)::rest) S u K:=by
 subst hV;refine .inr (.inr (.inr (.inl ⟨s,_,⟨T,r,z,off,V,v,agg,n,hop,hd,hr,hv,fun B a hreg=>?_,hT,hn,hone,hle,rfl,hw,fun r' hr' t off' ht=>?_⟩,k⟩)))
 ·cases z with
  | tmp t=>exact hreg.eval hz
  | const x=>injection hz with hz;injection hz
  | global g=>injection hz with hz;injection hz
  | func f=>injection hz with hz;injection hz
 have:=List.all_eq_true.1 hnl r' hr'
 simp only[ht,Bool.not_eq_true'] at this
 rintro rfl;rw[Nat.beq_refl] at this;cases this
theorem Rep.pub(h:Rep w0 u0 S B a w u){r t:Tmp}{off n c:Nat}{V:Vr}{pubs:List Tmp}(hno:NoAt S pubs)(ht:t∈pubs)(hall:∀s∈pubs,∀V',S.var s=some V'→s=t)(hr:S.reg r=some (.slc t off n c))(hv:S.var t=some V)(htn:t<S.n):
  Rep w0 u0 ((S.unpub pubs).set r (.v (.slice (some ⟨B t,off,none⟩) n c))) B a w (pubW u w [B t]):=by
 refine⟨⟨fun s x hx=>?_,h.regs.size⟩,⟨fun s x t' hx ht'=>?_⟩,h.defers,fun s V' hV=>?_,fun s s' V1 V2 h1 h2 e=>?_,pubW_dat h.dat,h.base,pubW_grow h.grow (fun b hb=>?_),h.bel⟩
 ·by_cases e:s=r
  ·subst e
   simp only[St.set,zxb] at hx
   injection hx with hx
   subst hx;exact h.regs.reg s (.slc t off n c) hr
  simp only[St.set,upd_ne _ _ e] at hx
  exact h.regs.reg s x (zwe hx).1
 ·by_cases e:s=r
  ·subst e
   simp only[St.set,zxb] at hx
   injection hx with hx
   subst hx;cases ht'
  simp only[St.set,upd_ne _ _ e] at hx
  obtain⟨k1,k2⟩:=zwe hx;obtain⟨V',hV'⟩:=h.wf.reg s x t' k1 ht';exact⟨V',by show(S.unpub pubs).var t'=_;rw[unpub_var (fun hm=>k2 (hno s x t' k1 ht' hm))];exact hV'⟩
 ·obtain⟨k1,k2⟩:=zxn hV;obtain⟨g1,g2,g3⟩:=h.var s V' k1;refine⟨g1,?_,g3⟩;rw[pubW_out]
  ·exact g2
  intro hm
  simp at hm
  exact k2 (h.inj s t V' V k1 hv hm ▸ ht)
 ·exact h.inj s s' V1 V2 (zxn h1).1 (zxn h2).1 e
 simp at hb;subst hb;exact(h.var t V hv).2.2.1 htn
theorem zyo{c0:Code}{Q:MP}{r t:Tmp}{off n c:Nat}{V:Vr}(pubs:List Tmp)(hno:NoAt S pubs)(hall:(pubs.all fun s=>Nat.beq s t||(S.var s).isNone)=true)(hr:S.reg r=some (.slc t off n c))(hv:S.var t=some V)(ht:pubs.contains t=true)
  (k:∀b u1,Ext u u1→u0.heap.size≤b→u1.heap[b]? = some (.cells V.cs.toArray V.ty (0,0))→SW P w0 u0 c0 ((S.unpub pubs).set r (.v (.slice (some ⟨b,off,none⟩) n c))) u1 Q) (hlt:Nat.blt t S.n=true:=by kernel_rfl):SW P w0 u0 c0 S u Q:=by
 intro B a w u' e hrep;have hm:=List.contains_iff_mem.1 ht;obtain⟨g1,g2,g3⟩:=hrep.var t V hv;have hx:Ext u' (pubW u' w [B t]):=pubW_ext hrep.dat
 have hrep2:=hrep.pub hno hm (fun s hs V' hV'=>by
  have:=List.all_eq_true.1 hall s hs
  simp only[Bool.or_eq_true,Option.isNone_iff_eq_none] at this
  rcases this with h|h
  ·exact Nat.eq_of_beq_eq_true h
  rw[hV'] at h;cases h) hr hv (Nat.le_of_ble_eq_true hlt)
 exact k (B t) (pubW u' w [B t]) (e.trans hx) (g3.1 (Nat.le_of_ble_eq_true hlt)) (by rw[pubW_in (by simp) (zyz g2) hrep.dat.size];exact g1) B a w _ (Ext.refl _) hrep2
def hideB(u:World)(b:Nat):World:={ u with heap:=u.heap.setIfInBounds b hidO }
theorem hideB_size(u:World)(b:Nat):(hideB u b).heap.size=u.heap.size:=by simp[hideB]
theorem hideB_ne{b k:Nat}(h:k≠b):(hideB u b).heap[k]? = u.heap[k]? := by simp only[hideB];rw[Array.getElem?_setIfInBounds_ne (Ne.symm h)]
theorem hideB_eq{b:Nat}(h:b<u.heap.size):(hideB u b).heap[b]? = some hidO:=by simp[hideB,h]
structure ExtB(b:Nat)(u u':World):Prop where
 size:u.heap.size≤u'.heap.size
 vis:∀(k:Nat) (o:Obj),k≠b→u.heap[k]? = some o→o≠hidO→u'.heap[k]? = some o
theorem ExtB.old{b:Nat}{v:World}(h:ExtB b u u')(e:Ext v u)(hb:v.heap.size≤b):Ext v u':=
 ⟨Nat.le_trans e.size h.size,fun k o hk hh=>h.vis k o (fun e=>by have:=zyz hk;omega) (e.vis k o hk hh) hh⟩
theorem sw_adopt{c0:Code}{Q:MP}{r k:Tmp}{n c b:Nat}{cs:List Value}{ty:TypeId}(hr:S.reg r=some (.v (.slice (some ⟨b,0,none⟩) n c)))(hb:u.heap[b]? = some (.cells cs.toArray ty (0,0)))(hb0:u0.heap.size≤b)(hk:S.var k=none)
  (kk:∀u1,ExtB b u u1→SW P w0 u0 c0 ⟨S.n,upd S.reg r (some (.slc k 0 n c)),upd S.var k (some ⟨ty,cs⟩)⟩ u1 Q) (hkn:Nat.blt k S.n=true:=by kernel_rfl):SW P w0 u0 c0 S u Q:=by
 intro B a w u' e hrep;have hbu:u'.heap[b]? = some (.cells cs.toArray ty (0,0)):=e.cells hb;have hbw:w.heap[b]? = some (.cells cs.toArray ty (0,0)):=hrep.dat.ext.cells hbu;have hlt:=zyz hbu
 have hno:∀s x,S.reg s=some x→x.at? ≠ some k:=fun s x hx hc=>by
  obtain⟨V,hV⟩:=hrep.wf.reg s x k hx hc;rw[hk] at hV;cases hV
 have hBt:∀t V,S.var t=some V→B t≠b:=fun t V hV hc=>by
  have:=(hrep.var t V hV).2.1;rw[hc,hbu] at this
  injection this with this
  unfold hidO at this;cases this
 have hex:ExtB b u (hideB u' b):=⟨by rw[hideB_size];exact e.size,fun k' o hk' ho hh=>by rw[hideB_ne hk'];exact e.vis k' o ho hh⟩
 refine kk (hideB u' b) hex (setB B k b) a w _ (Ext.refl _) ⟨⟨fun s x hx=>?_,hrep.regs.size⟩,⟨fun s x t hx ht=>?_⟩,hrep.defers,fun t V hV=>?_,fun t t' V1 V2 h1 h2 he=>?_,⟨by rw[hideB_size];exact hrep.dat.size,fun b' o hb' hh=>?_⟩,hrep.base,⟨by rw[hideB_size];exact hrep.grow.size,fun b' hb' hf'=>?_⟩,hrep.bel⟩
 ·by_cases e1:s=r
  ·subst e1
   simp only[zxb] at hx
   injection hx with hx
   subst hx;have:=hrep.regs.reg s _ hr
   simpa[SV.conc,setB] using this
  simp only[upd_ne _ _ e1] at hx
  rw[conc_setB (hno s x hx)];exact hrep.regs.reg s x hx
 ·show ∃V,upd S.var k (some ⟨ty,cs⟩) t=some V
  by_cases e2:t=k
  ·subst e2;exact⟨_,zxb _ _ _⟩
  rw[upd_ne _ _ e2]
  by_cases e1:s=r
  ·subst e1
   simp only[zxb] at hx
   injection hx with hx
   subst hx
   injection ht with ht;exact absurd ht.symm e2
  simp only[upd_ne _ _ e1] at hx
  exact hrep.wf.reg s x t hx ht
 ·by_cases e2:t=k
  ·subst e2
   simp only[zxb] at hV
   injection hV with hV
   subst hV;rw[show setB B t b t=b by simp[setB]];exact⟨hbw,hideB_eq hlt,.mk0 (Nat.le_of_ble_eq_true hkn) hb0⟩
  simp only[upd_ne _ _ e2] at hV
  obtain⟨g1,g2,g3⟩:=hrep.var t V hV;rw[show setB B k b t=B t by simp[setB,e2]];exact⟨g1,by rw[hideB_ne (hBt t V hV)];exact g2,g3⟩
 ·by_cases e1:t=k
  ·by_cases e2:t'=k
   ·rw[e1,e2]
   simp only[upd_ne _ _ e2] at h2
   simp[setB,e1,e2] at he
   exact absurd he.symm (hBt t' V2 h2)
  simp only[upd_ne _ _ e1] at h1
  by_cases e2:t'=k
  ·simp[setB,e1,e2] at he
   exact absurd he (hBt t V1 h1)
  simp only[upd_ne _ _ e2] at h2
  simp[setB,e1,e2] at he
  exact hrep.inj t t' V1 V2 h1 h2 he
 ·by_cases e1:b'=b
  ·subst e1;rw[hideB_eq hlt] at hb';injection hb' with hb';exact absurd hb'.symm hh
  rw[hideB_ne e1] at hb';exact hrep.dat.vis b' o hb' hh
 rw[hideB_ne xq];exact hrep.grow.old b' hb' hf'
theorem Rep.lentBack(h:Rep w0 u0 S B a w u){t:Tmp}{V V':Vr}(hv:S.var t=some V)(hd:Dat u' w')(hb:Bel ⟨w,some (0,B t),[]⟩ w')(hg:Grow u u')(hw:w'.heap[B t]? = some (.cells V'.cs.toArray V'.ty (0,0))){d:Option Tmp}(hfd:∀s,d=some s→s<S.n)(v:Value):
  Rep w0 u0 ((S.setVar t V').put d (some (.v v))) B (a.put d v) w' u':=by
 obtain⟨v1,v2,v3⟩:=h.var t V hv
 have hwf:(S.setVar t V').Wf:=⟨fun r x s hx hs=>by
  obtain⟨V1,hV1⟩:=h.wf.reg r x s hx hs
  by_cases e:s=t
  ·subst e;exact⟨V',zxb _ _ _⟩
  exact⟨V1,by show upd S.var t (some V') s=_;rw[upd_ne _ _ e];exact hV1⟩⟩
 have key:∀s V1,(S.setVar t V').var s=some V1→∃V2,S.var s=some V2:=fun s V1 hV=>by
  by_cases e:s=t
  ·exact⟨V,by rw[e];exact hv⟩
  simp only[St.setVar,upd_ne _ _ e] at hV;exact⟨V1,hV⟩
 have hbs:=h.bel;refine⟨regOK_put (S:=S.setVar t V') ⟨h.regs.reg,h.regs.size⟩ hfd (fun z e=>by injection e with e;rw[←e];rfl),wf_put hwf (fun z t e ht=>by injection e with e;rw[←e] at ht;cases ht),by rw[put_defers];exact h.defers,?_,?_,hd,h.base,h.grow.trans hg,?_⟩
 ·rw[put_var,put_n];intro s V1 hV1
  by_cases e:s=t
  ·subst e
   simp only[St.setVar,zxb] at hV1
   injection hV1 with hV1
   subst hV1;exact⟨hw,by rw[hg.old _ (zyz v2)];exact v2,v3⟩
  simp only[St.setVar,upd_ne _ _ e] at hV1
  obtain⟨g1,g2,g3⟩:=h.var s V1 hV1;refine⟨?_,by rw[hg.old _ (zyz g2)];exact g2,g3⟩;rw[hb.block _ (zyz g1) (fun q hq=>?_) (by simp)]
  ·exact g1
  injection hq with hq;injection hq with _ hq
  exact e (h.inj s t V1 V hV1 hv hq.symm)
 ·rw[put_var];intro s s' V1 V2 h1 h2 e;obtain⟨X,hX⟩:=key s V1 h1;obtain⟨Y,hY⟩:=key s' V2 h2;exact h.inj s s' X Y hX hY e
 refine⟨hb.os.trans hbs.os,hb.tape.trans hbs.tape,hb.output.trans hbs.output,Nat.le_trans hbs.size hb.size,fun k hk hl hf=>?_⟩;rw[hb.block k (Nat.lt_of_lt_of_le hk hbs.size) (fun q hq=>?_) (by simp)]
 ·exact hbs.block k hk hl hf
 injection hq with hq;injection hq with _ hq
 subst hq
 rcases Nat.lt_or_ge t S.n with hs3|hs3
 ·have h3:=v3.1 hs3;rw[h.base] at h3
  omega
 exact hl _ (v3.2 hs3)
theorem sy_lend(d:Tmp)(f:FuncId){t len cap:Nat}{V:Vr}(args:List Value){Φ:Vr→World→Prop}(hv:S.var t=some V)
  (kc:∀g w u1,Ext u u1→Dat u1 w→w.heap[g]? = some (.cells V.cs.toArray V.ty (0,0))→u1.heap[g]? = some hidO→Calls P f (Value.slice (some ⟨g,0,none⟩) len cap::args).toArray w (PostL u1 w g Φ))
  (k:∀V' u1,Ext u u1→Φ V' u1→sym P ops w0 u0 true rest ((S.setVar t V').set d (.v (.tuple #[]))) u1 K)
  (hw:Wants ops o S:=by exact zwf xj) (hd:o.dst=some d:=by kernel_rfl) (hf:(freeB S d&&knownB S o)=true:=by kernel_rfl) (hk:opK o.op≠2:=by decide)
  (hrun:∀B w,(execOp (rho S B) o).run P w=.ok (.enter f (Value.slice (some ⟨B t,0,none⟩) len cap::args).toArray) w:=by intro _ _;kernel_rfl):sym P ops w0 u0 true ((o,p)::rest) S u K:=by
 simp only[Bool.and_eq_true] at hf
 refine .inr (.inr (.inl ⟨.inl rfl,fun B a w u' he hrep=>⟨hw B a hrep.regs,?_⟩⟩));obtain⟨v1,v2,v3⟩:=hrep.var t V hv
 unfold Oper.wp
 rw[exec_rho hrep.regs hf.2 hk,hrun B w]
 simp only[Oper.upon]
 refine Calls.mono (kc (B t) w u' he hrep.dat v1 v2) ?_;rintro e w' ⟨u2,V',rfl,k1,k2,k3,k4,k5⟩;have hr2:=hrep.lentBack hv k1 k2 k3 k4 (d:=o.dst) (fun s hs=>(zxx hd hf.1 s hs).1) (.tuple #[]);refine⟨_,B,u2,u2,hr2,fun _=>k3.ext,fun _=>he.trans k3.ext,Ext.refl _,?_⟩;have:=k V' u2 (he.t k3.ext) k5;rw[hd];exact this
end
theorem eqI{k:IntKind}{x y:Int}(h:x=y):SV.v (.int k x)=SV.v (.int k y):=by rw[h]
def rl0:RL:=⟨false,⟨none,0,0⟩,⟨none,0,0⟩⟩
def rcs(L:List RL):List Value:=L.flatMap RL.cs
section
variable {u u' w w':World} {L M:List RL} {r:RL} {l m:List Rat} {q:Rat} {K K' n i c b off:Nat} {x y:Sl}
theorem rcs_cons:rcs (r::L)=r.cs++rcs L:=rfl
theorem rcs_app:rcs (L++M)=rcs L++rcs M:=by simp[rcs]
theorem zyx:(rcs L).length=L.length*3:=by
 induction L with
 | nil=>rfl
 | cons r L ih=>rw[rcs_cons,List.length_append,ih,List.length_cons];simp[RL.cs];omega
theorem rcs_drop(n:Nat):(rcs L).drop (n*3)=rcs (L.drop n):=by
 induction n generalizing L with
 | zero=>simp
 | succ n ih=>
  cases L with
  | nil=>simp[rcs]
  | cons r L=>rw[rcs_cons,show(n+1)*3=r.cs.length+n*3 by simp[RL.cs];omega,List.drop_append,Nat.add_sub_cancel_left,ih,List.drop_of_length_le xq];simp
theorem rcs_take(n:Nat):(rcs L).take (n*3)=rcs (L.take n):=by
 induction n generalizing L with
 | zero=>simp[rcs]
 | succ n ih=>
  cases L with
  | nil=>simp[rcs]
  | cons r L=>rw[rcs_cons,show(n+1)*3=r.cs.length+n*3 by simp[RL.cs];omega,List.take_append,Nat.add_sub_cancel_left,ih,List.take_of_length_le xq];simp[rcs_cons]
theorem rcs_get(h:i<L.length):((rcs L).drop (i*3)).take 3=(L.getD i rl0).cs:=by
 rw[rcs_drop,List.drop_eq_getElem_cons h,rcs_cons];have:(L[i].cs).length=3:=rfl;rw[List.take_append_of_le_length xq,List.take_of_length_le xq]
 simp[h]
theorem zyw(h:i<L.length){off:Nat}(ho:off=i*3):setL (rcs L) off r.v.cells.toList=rcs (L.set i r):=by
 subst ho;have e:r.v.cells.toList=r.cs:=rfl;rw[e]
 unfold setL
 rw[rcs_take,show i*3+r.cs.length=(i+1)*3 by simp[RL.cs];omega,rcs_drop,List.set_eq_take_append_cons_drop,if_pos h,rcs_app,rcs_cons,List.append_assoc]
theorem made_rcs(n:Nat):(madeCells (Value.agg #[.bool false,qyn,qyn]).cells (n*3)).toList=rcs (List.replicate n rl0):=by
 apply List.ext_getElem?
 intro j;have hl:(rcs (List.replicate n rl0)).length=n*3:=by rw[zyx];simp
 by_cases hj:j<n*3
 ·have e1:(madeCells (Value.agg #[.bool false,qyn,qyn]).cells (n*3)).toList[j]? = some ((Value.agg #[.bool false,qyn,qyn]).cells[j%3]!):=by
   simp[madeCells,hj,Value.cells]
  rw[e1];have h3:j/3<(List.replicate n rl0).length:=by simp;omega
  have e2:=rcs_get h3
  have e3:(rcs (List.replicate n rl0))[j]? = (((rcs (List.replicate n rl0)).drop (j/3*3)).take 3)[j%3]? := by
   rw[List.getElem?_take_of_lt xq,List.getElem?_drop];congr 1;omega
  rw[e3,e2];have e4:(List.replicate n rl0).getD (j/3) rl0=rl0:=by rw[qyg,List.getElem?_replicate];split<;>rfl
  rw[e4];have:j%3=0∨j%3=1∨j%3=2:=by omega
  rcases this with h|h|h<;>rw[h]<;>rfl
 rw[List.getElem?_eq_none (by simp[madeCells];omega),List.getElem?_eq_none xq]
def RatsN(u:World)(L:List RL)(l:List Rat)(K:Nat):Prop:=L.length=l.length∧∀i,i<l.length→RatN u (L.getD i rl0) (l.getD i 0) K
theorem RatsN.ext(h:RatsN u L l K)(e:Ext u u'):RatsN u' L l K:=⟨h.1,fun i hi=>(h.2 i hi).ext e⟩
theorem RatsN.snoc(h:RatsN u L l K)(hr:RatN u r q K):RatsN u (L++[r]) (l++[q]) K:=by
 refine⟨by simp[h.1],fun i hi=>?_⟩
 simp at hi
 by_cases e:i<l.length
 ·have:=h.2 i e;rw[qyg,List.getElem?_append_left (by rw[h.1];exact e),qyg (l:=l++[q]),List.getElem?_append_left e];rw[qyg,qyg] at this;exact this
 have:i=l.length:=by omega
 subst this;rw[qyg,List.getElem?_append_right (by rw[h.1];exact Nat.le_refl _),qyg,List.getElem?_append_right qyl]
 simp[h.1];exact hr
theorem take_snoc{t:List Rat}(h:i<t.length):t.take i++[t.getD i 0]=t.take (i+1):=by
 rw[List.take_succ_eq_append_getElem h];simp[h]
theorem cells_at{cs:Array Value}{t:TypeId}(h:u.heap[b]? = some (.cells cs t (0,0)))(j:Nat):u.cell? ⟨b,j,none⟩=cs[j]? := by simp[World.cell?,h]
theorem lit_news{cs:List Value}{t:TypeId}(h:u.heap[b]? = some (.cells cs.toArray t (0,0))):∀(j:Nat) (v:Value),cs[j]? = some v→u.cell? ⟨b,0+j,none⟩=some v:=fun j v hv=>by
 rw[Nat.zero_add,cells_at h];simpa using hv
theorem rl_one(r:RL):∀v∈r.cs,v.oneCell'=true:=by
 intro v hv
 simp[RL.cs] at hv
 rcases hv with rfl|rfl|rfl<;>rfl
theorem app_next{t:List Rat}(h:RatsN u L (t.take i) K)(hr:RatN u r q K)(ht:i<t.length)(hq:q=t.getD i 0):RatsN u (L++[r]) (t.take (i+1)) K:=by
 rw[←take_snoc ht,←hq];exact h.snoc hr
end
namespace Nt
theorem sg_add4{s t:Bool}(N M:Nat)(h:(s==t)=false)(c:decide ((0:Int)≤cmpS (N:Int) (M:Int))=true):sg s (N-M)=sg s N+sg t M:=by
 unfold cmpS at c
 cases s<;>cases t<;>simp_all [sg]<;>(split at c<;>omega)
theorem sg_add5{s t:Bool}(N M:Nat)(h:(s==t)=false)(c:decide ((0:Int)≤cmpS (N:Int) (M:Int))=false):sg t (M-N)=sg s N+sg t M:=by
 have c':(cmpS (N:Int) (M:Int) == -1)=true:=by
  rcases cmp_range (N:Int) (M:Int) with ⟨e,h⟩|⟨e,h⟩|⟨e,h⟩<;>rw[e] at c ⊢ <;> simp at c ⊢
 exact sg_add2 N M h c'
theorem ediv_uniq{z y q r:Int}(hy:y≠0)(h:z=y*q+r)(h0:0≤r)(h1:r<(y.natAbs:Int)):z/y=q∧z%y=r:=by
 rcases Int.lt_or_le y 0 with hn|hn
 ·exact(Int.ediv_emod_unique' hn).2 ⟨by omega,h0,by omega⟩
 exact(Int.ediv_emod_unique xq).2 ⟨by omega,h0,by omega⟩
theorem ediv_pos{N M:Nat}(z y:Int)(hz:z.natAbs=N)(hy:y.natAbs=M)(hM:0<M)(hr:¬(z<0∧0<N%M)):z/y=sg (!(decide (z<0)==decide (y<0))) (N/M)∧z%y=((N%M:Nat):Int):=by
 have key:z=y*sg (!(decide (z<0)==decide (y<0))) (N/M)+((N%M:Nat):Int):=by
  have h:=Nat.div_add_mod N M;have h':((M*(N/M)+N%M:Nat):Int)=N:=by rw[h]
  rw[Int.natCast_add,Int.natCast_mul] at h'
  rcases Int.lt_or_le z 0 with hz0|hz0
  ·have hm:N%M=0:=by omega
   rw[hm] at h' ⊢
   rcases Int.lt_or_le y 0 with hy0|hy0
   ·have e1:z=-(N:Int):=by omega
    have e2:y=-(M:Int):=by omega
    simp only[hz0,hy0,decide_true,beq_self_eq_true,Bool.not_true,sg_false]
    rw[e1,e2,←h',Int.neg_mul];omega
   have e1:z=-(N:Int):=by omega
   have e2:y=(M:Int):=by omega
   have hy1:decide (y<0)=false:=by simp;omega
   simp only[hz0,hy1,decide_true]
   show z=y*sg true _+_;rw[sg_true,e1,e2,←h',Int.mul_neg];omega
  have hz1:decide (z<0)=false:=by simp;omega
  have e1:z=(N:Int):=by omega
  rcases Int.lt_or_le y 0 with hy0|hy0
  ·have e2:y=-(M:Int):=by omega
   simp only[hz1,hy0,decide_true]
   show z=y*sg true _+_;rw[sg_true,e1,e2,←h',Int.neg_mul_neg]
  have e2:y=(M:Int):=by omega
  have hy1:decide (y<0)=false:=by simp;omega
  simp only[hz1,hy1,beq_self_eq_true,Bool.not_true,sg_false]
  rw[e1,e2,←h']
 have hm:=Nat.mod_lt N hM;exact ediv_uniq xq key xq xq
theorem ediv_neg'{N M:Nat}(z y:Int)(hz:z.natAbs=N)(hy:y.natAbs=M)(hM:0<M)(hz0:z<0)(hr:0<N%M):z/y=sg (!(decide (z<0)==decide (y<0))) (N/M+1)∧z%y=((M-N%M:Nat):Int):=by
 have hm:=Nat.mod_lt N hM
 have key:z=y*sg (!(decide (z<0)==decide (y<0))) (N/M+1)+((M-N%M:Nat):Int):=by
  have h:=Nat.div_add_mod N M;have h':((M*(N/M)+N%M:Nat):Int)=N:=by rw[h]
  rw[Int.natCast_add,Int.natCast_mul] at h';have e1:z=-(N:Int):=by omega
  have e3:((M-N%M:Nat):Int)=(M:Int)-((N%M:Nat):Int):=by omega
  have e4:((N/M+1:Nat):Int)=((N/M:Nat):Int)+1:=by omega
  rcases Int.lt_or_le y 0 with hy0|hy0
  ·have e2:y=-(M:Int):=by omega
   simp only[hz0,hy0,decide_true,beq_self_eq_true,Bool.not_true,sg_false]
   rw[e1,e2,e3,e4,←h',Int.neg_mul,Int.mul_add];omega
  have e2:y=(M:Int):=by omega
  have hy1:decide (y<0)=false:=by simp;omega
  simp only[hz0,hy1,decide_true]
  show z=y*sg true _+_;rw[sg_true,e1,e2,e3,e4,←h',Int.mul_neg,Int.mul_add];omega
 exact ediv_uniq xq key xq xq
theorem add_div2{a c:Int}{b d:Nat}(hb:0<b)(hd:0<d):(((a*d+c*b:Int)):Rat)/(((b*d:Int)):Rat)=mkRat a b+mkRat c d:=by
 rw[←add_mk hb hd,Rat.mkRat_eq_div]
 congr 1
theorem mul_div2{a c:Int}{b d:Nat}:(((a*c:Int)):Rat)/(((b*d:Int)):Rat)=mkRat a b*mkRat c d:=by
 rw[←mul_mk,Rat.mkRat_eq_div]
 congr 1
theorem mk_div(a:Int)(b:Nat):(a:Rat)/((b:Int):Rat)=mkRat a b:=by rw[Rat.mkRat_eq_div];rfl
theorem cmpQ_lt(x y:Rat):decide (cmpQ x y<0)=decide (x<y):=by
 unfold cmpQ
 rw[decide_eq_decide]
 split
 ·simp[*]
 split<;>simp[*]
def lo(x y:Rat):Rat:=if y<x then y else x
def hi(x y:Rat):Rat:=if x<y then y else x
end Nt
section
variable {u u' w w':World} {x y:Sl} {i j:IL} {r r':RL} {N M K L:Nat} {z z':Int} {q q':Rat}
theorem IntN.sg(h:IntN u i z K):z=Nt.sg i.s z.natAbs:=by
 rw[h.1];unfold Nt.sg
 by_cases hz:z<0
 ·simp[hz];omega
 simp[hz];omega
theorem sign_len(h:IntN u i z K):cmpS z 0=if((i.m.n:Int)==0)=true then 0 else if i.s=true then -1 else 1:=by
 have hp:=h.2.pos;rw[h.1]
 rcases cmp_range z 0 with ⟨e,h1⟩|⟨e,h1⟩|⟨e,h1⟩
 ·rw[e,if_neg yw,if_pos (by simpa using h1)]
 ·rw[e,if_pos yw]
 rw[e,if_neg yw,if_neg yw]
theorem neg_int(h:IntN u i z K):IntN u ⟨(!i.s)&&decide ((0:Int)<(i.m.n:Int)),i.m⟩ (-z) K:=by
 have hp:=h.2.pos;refine⟨?_,by rw[Int.natAbs_neg];exact h.2⟩;show((!i.s)&&_)=_;rw[h.1,Bool.eq_iff_iff]
 simp
 omega
theorem RatN.num(h:RatN u r q K):IntN u ⟨r.s,r.m⟩ q.num K:=h.1
theorem RatN.den(h:RatN u r q K):NatN u r.d q.den K:=h.2
theorem neg_rat(h:RatN u r q K)(h':IntN u i (-q.num) K):RatN u ⟨i.s,i.m,r.d⟩ (-q) K:=by
 refine⟨?_,?_⟩
 ·show IntN u i _ _;rw[Rat.neg_num];exact h'
 show NatN u r.d _ _;rw[Rat.neg_den];exact h.2
theorem Nt.absQ_num(q:Rat):(absQ q).num=(q.num.natAbs:Int):=by
 unfold absQ
 by_cases hq:q<0
 ·rw[if_pos hq,Rat.neg_num];have h0:¬0≤q.num:=fun h=>by have:=Rat.num_nonneg.1 h;grind
  omega
 rw[if_neg hq];have h0:0≤q.num:=Rat.num_nonneg.2 (by grind)
 omega
theorem Nt.absQ_den(q:Rat):(absQ q).den=q.den:=by unfold absQ;split<;>simp
theorem abs_rat3(h:RatN u r q K)(h':IntN u i (q.num.natAbs:Int) K):RatN u ⟨i.s,i.m,r.d⟩ (absQ q) K:=by
 refine⟨?_,?_⟩
 ·show IntN u i _ _;rw[absQ_num];exact h'
 show NatN u r.d _ _;rw[absQ_den];exact h.2
theorem red_mk(hy:z'≠0):(z:Rat)/(z':Rat)=mkRat (quoI z z') z'.natAbs:=(div_mk2 hy).symm
theorem quoI_neg(z z':Int)(h:z'<0):quoI z z'=-z:=by
 unfold quoI
 by_cases hz:z<0
 ·simp[hz,h];omega
 simp[hz,h];omega
theorem quoI_pos(z z':Int)(h:0≤z'):quoI z z'=z:=by
 have h':¬z'<0:=by omega
 unfold quoI
 by_cases hz:z<0
 ·simp[hz,h'];omega
 simp[hz,h'];omega
theorem red_fin{G:Nat}(hy:z'≠0)(hG:G=Nat.gcd z.natAbs z'.natAbs)(h1:IntN u i (quoI z z'/(G:Int)) K)(h2:NatN u y (z'.natAbs/G) L):RatN u ⟨i.s,i.m,y⟩ ((z:Rat)/(z':Rat)) (max K L):=by
 have hp:0<z'.natAbs:=Int.natAbs_pos.2 hy;rw[red_mk hy];have e:=mk_den (z:=quoI z z') hp;rw[quoI_abs,←hG] at e;refine⟨?_,?_⟩
 ·show IntN u i _ _;rw[e.2];exact h1.more (Nat.le_max_left _ _)
 show NatN u y _ _;rw[e.1];exact h2.more (Nat.le_max_right _ _)
theorem gcd_div_abs{G:Nat}(hG:G=Nat.gcd z.natAbs z'.natAbs)(hp:0<G):(z'/(G:Int)).natAbs=z'.natAbs/G:=by
 have hd:(G:Int)∣z':=by rw[hG];exact Int.ofNat_dvd_left.2 (Nat.gcd_dvd_right _ _)
 obtain⟨k,hk⟩:=hd;subst hk;rw[Int.mul_ediv_cancel_left _ xq,Int.natAbs_mul,Int.natAbs_natCast,Nat.mul_div_cancel_left _ hp]
theorem red_neg{G:Nat}(hy:z'≠0)(hG:G=Nat.gcd z.natAbs z'.natAbs)(h1:IntN u i (-(z/(G:Int))) K)(h2:IntN u' j (z'/(G:Int)) L)(hs:j.s=true)(h3:NatN u y (z'/(G:Int)).natAbs L):RatN u ⟨i.s,i.m,y⟩ ((z:Rat)/(z':Rat)) (max K L):=by
 have hp:0<G:=by rw[hG];exact Nat.gcd_pos_of_pos_right _ (Int.natAbs_pos.2 hy)
 have hneg:z'<0:=by
  rw[h2.1] at hs;have h4:z'/(G:Int)<0:=by simpa using hs
  rcases Int.lt_or_le z' 0 with h|h
  ·exact h
  have:=Int.ediv_nonneg h (show(0:Int)≤(G:Int) by omega);omega
 have hd:(G:Int)∣z:=by rw[hG];exact Int.ofNat_dvd_left.2 (Nat.gcd_dvd_left _ _)
 refine red_fin hy hG ?_ (by rw[←gcd_div_abs hG hp];exact h3);rw[quoI_neg z z' hneg];obtain⟨k,hk⟩:=hd;rw[hk,Int.mul_ediv_cancel_left _ xq] at h1;rw[hk,←Int.mul_neg,Int.mul_ediv_cancel_left _ xq];exact h1
theorem red_pos{G:Nat}(hy:z'≠0)(hG:G=Nat.gcd z.natAbs z'.natAbs)(h1:IntN u i (z/(G:Int)) K)(h2:IntN u' j (z'/(G:Int)) L)(hs:j.s=false)(h3:NatN u y (z'/(G:Int)).natAbs L):RatN u ⟨i.s,i.m,y⟩ ((z:Rat)/(z':Rat)) (max K L):=by
 have hp:0<G:=by rw[hG];exact Nat.gcd_pos_of_pos_right _ (Int.natAbs_pos.2 hy)
 have hd2:(G:Int)∣z':=by rw[hG];exact Int.ofNat_dvd_left.2 (Nat.gcd_dvd_right _ _)
 have hnn:0≤z':=by
  rw[h2.1] at hs;have h4:¬z'/(G:Int)<0:=by simpa using hs
  obtain⟨k,hk⟩:=hd2;rw[hk,Int.mul_ediv_cancel_left _ xq] at h4;rw[hk];exact Int.mul_nonneg xq xq
 refine red_fin hy hG ?_ (by rw[←gcd_div_abs hG hp];exact h3);rw[quoI_pos z z' hnn];exact h1
def PartV(q:Rat)(K:Nat)(v:Value)(u:World):Prop:=∃(i j:IL) (z:Int) (D:Nat),v=.tuple #[i.v,j.v]∧IntV u i z K∧IntN u j (D:Int) K∧0<D∧q=mkRat z D∧1≤K
end
@[reducible] def IV(a b:RL):Value:=.agg #[.bool a.s,.slice a.m.a a.m.n a.m.c,.slice a.d.a a.d.n a.d.c,.bool b.s,.slice b.m.a b.m.n b.m.c,.slice b.d.a b.d.n b.d.c]
namespace Nt
theorem cmpQ_gt(x y:Rat):decide ((0:Int)<cmpQ x y)=decide (y<x):=by
 unfold cmpQ
 rw[decide_eq_decide]
 split
 ·constructor
  ·intro h;simp at h
  intro h;grind
 split
 ·constructor
  ·intro h;simp at h
  intro h;grind
 constructor
 ·intro h;grind
 intro h;simp
theorem cmpQ_le(x y:Rat):decide (cmpQ x y≤(0:Int))=decide (x≤y):=by
 unfold cmpQ
 rw[decide_eq_decide]
 split
 ·constructor
  ·intro h;grind
  intro h;simp
 split
 ·constructor
  ·intro h;grind
  intro h;simp
 constructor
 ·intro h;simp at h
 intro h;grind
theorem cmpQ_eq(x y:Rat):(cmpQ x y==(0:Int))=decide (x=y):=by
 unfold cmpQ
 rw[Bool.eq_iff_iff,decide_eq_true_iff]
 split
 ·constructor
  ·intro h;simp at h
  intro h;grind
 split<;>simp_all
theorem sgQ_gt(x:Rat):decide ((0:Int)<sgQ x)=decide (0<x):=cmpQ_gt x 0
theorem sgQ_lt(x:Rat):decide (sgQ x<(0:Int))=decide (x<0):=cmpQ_lt x 0
theorem ends_gt{x y:Rat}(h:decide ((0:Int)<cmpQ x y)=true):lo x y=y∧hi x y=x:=by
 rw[cmpQ_gt] at h;have h:=qyt h
 unfold lo hi
 exact⟨if_pos h,if_neg (by grind)⟩
theorem ends_le{x y:Rat}(h:decide ((0:Int)<cmpQ x y)=false):lo x y=x∧hi x y=y:=by
 rw[cmpQ_gt] at h;have h:=qyf h
 unfold lo hi
 refine⟨if_neg h,?_⟩
 split
 ·rfl
 grind
theorem lesser_lt{x y:Rat}(h:decide (cmpQ y x<(0:Int))=true):lo x y=y:=by
 rw[cmpQ_lt] at h;exact if_pos (qyt h)
theorem lesser_ge{x y:Rat}(h:decide (cmpQ y x<(0:Int))=false):lo x y=x:=by
 rw[cmpQ_lt] at h;exact if_neg (qyf h)
theorem greater_gt{x y:Rat}(h:decide ((0:Int)<cmpQ y x)=true):hi x y=y:=by
 rw[cmpQ_gt] at h;exact if_pos (qyt h)
theorem greater_le{x y:Rat}(h:decide ((0:Int)<cmpQ y x)=false):hi x y=x:=by
 rw[cmpQ_gt] at h;exact if_neg (qyf h)
theorem lo_le_hi(x y:Rat):lo x y≤hi x y:=by unfold lo hi;grind
theorem lo_of_le{x y:Rat}(h:x≤y):lo x y=x∧hi x y=y:=by unfold lo hi;grind
def sgI(a b:Rat):Int:=if 0<lo a b then 1 else if hi a b<0 then -1 else 0
def lo4(a b c d:Rat):Rat:=lo (lo (lo a b) c) d
def hi4(a b c d:Rat):Rat:=hi (hi (hi a b) c) d
end Nt
section
variable {u u' w w':World} {x y:Sl} {i j:IL} {r r':RL} {N M K L:Nat} {z z':Int} {q q':Rat}
theorem k_cloneN(d:Dat u w)(h:NatN u x N K)(hK:K≤500000000):qyc 166 #[x.v] w (Post u w fun v u'=>∃y:Sl,v=y.v∧NatN u' y N K):=by
 obtain⟨h1,h2,h3⟩:=h;refine(CloneU_any _ _ _ _ _ (h2.ext d.ext) xq).mono fun e w' ⟨A',c',he,f,g,hb⟩=>?_;have hs:u.heap.size≤w'.heap.size:=by rw[d.size];exact hb.size
 exact⟨_,over u w',he,over_dat d hb,hb,over_grow hs,⟨A',x.n,c'⟩,rfl,h1,f.over (fun hp=>by obtain⟨a,e,k,_⟩:=g hp;exact⟨a,e,by rw[d.size];exact k⟩) hs,h3⟩
theorem own_rat{m e:Sl}(h:RatN u r q K)(h1:NatN u' m q.num.natAbs K)(h2:NatN u' e q.den K):RatN u' ⟨r.s,m,e⟩ q K:=⟨⟨h.1.1,h1⟩,h2⟩
end
end Go.Proofs.YtcpnfblekhgmgaaGreat
namespace Go.Proofs.YtcpnfblekhgmgaaGreat
open Nt
namespace Nt
def trimQ:List Rat→List Rat
 | []=>[]
 | a::l=>if trimQ l=[]∧a=0 then [] else a::trimQ l
def co(l:List Rat)(i:Nat):Rat:=l.getD i 0
theorem co_nil(i:Nat):co [] i=0:=by simp[co]
theorem co_zero(a:Rat)(l:List Rat):co (a::l) 0=a:=rfl
theorem zxu(a:Rat)(l:List Rat)(i:Nat):co (a::l) (i+1)=co l i:=by simp[co]
theorem co_ge{l:List Rat}{i:Nat}(h:l.length≤i):co l i=0:=by simp[co,List.getElem?_eq_none h]
theorem trim_co(l:List Rat)(i:Nat):co (trimQ l) i=co l i:=by
 induction l generalizing i with
 | nil=>rfl
 | cons a l ih=>
  unfold trimQ
  split
  ·rename_i h
   rw[co_nil]
   cases i with
   | zero=>rw[co_zero,h.2]
   | succ i=>rw[zxu,←ih,h.1,co_nil]
  cases i with
  | zero=>rfl
  | succ i=>rw[zxu,zxu,ih]
def Nrm(l:List Rat):Prop:=trimQ l=l
theorem zxy{l:List Rat}:trimQ l=[]↔∀i,co l i=0:=by
 induction l with
 | nil=>simp[trimQ,co]
 | cons a l ih=>
  unfold trimQ
  split
  ·rename_i h
   simp
   intro i
   cases i with
   | zero=>exact h.2
   | succ i=>rw[zxu];exact ih.1 h.1 i
  rename_i h
  simp
  apply Classical.byContradiction
  intro hc
  apply h
  have hc:∀i,co (a::l) i=0:=fun i=>Classical.byContradiction fun k=>hc ⟨i,k⟩;exact⟨ih.2 fun i=>by rw[←zxu a];exact hc (i+1),hc 0⟩
theorem trim_ext{l m:List Rat}(h:∀i,co l i=co m i):trimQ l=trimQ m:=by
 induction l generalizing m with
 | nil=>
  have:trimQ m=[]:=zxy.2 fun i=>by rw[←h i,co_nil]
  rw[this];rfl
 | cons a l ih=>
  cases m with
  | nil=>
   have:trimQ (a::l)=[]:=zxy.2 fun i=>by rw[h i,co_nil]
   rw[this];rfl
  | cons b m=>
   have e0:a=b:=h 0;have e1:trimQ l=trimQ m:=ih fun i=>by rw[←zxu a,←zxu b];exact h (i+1)
   unfold trimQ
   rw[e0,e1]
theorem trim_trim(l:List Rat):trimQ (trimQ l)=trimQ l:=trim_ext fun i=>trim_co l i
theorem trim_nrm(l:List Rat):Nrm (trimQ l):=trim_trim l
theorem co_map(f:Rat→Rat)(hf:f 0=0)(l:List Rat)(i:Nat):co (l.map f) i=f (co l i):=by
 simp only[co,qyg,List.getElem?_map]
 cases l[i]? <;> simp[hf]
theorem co_range(n:Nat)(f:Nat→Rat)(i:Nat):co ((List.range n).map f) i=if i<n then f i else 0:=by
 simp only[co,qyg,List.getElem?_map]
 by_cases h:i<n
 ·simp[h]
 simp[h]
def addQ(l m:List Rat):List Rat:=(List.range (max l.length m.length)).map fun i=>co l i+co m i
@[simp] theorem addQ_len(l m:List Rat):(addQ l m).length=max l.length m.length:=by simp[addQ]
theorem addQ_co(l m:List Rat)(i:Nat):co (addQ l m) i=co l i+co m i:=by
 unfold addQ
 rw[co_range]
 split
 ·rfl
 rw[co_ge (l:=l) xq,co_ge (l:=m) xq];exact(Rat.add_zero 0).symm
def negQ(l:List Rat):List Rat:=l.map fun x => -x
@[simp] theorem negQ_len(l:List Rat):(negQ l).length=l.length:=by simp[negQ]
theorem negQ_co(l:List Rat)(i:Nat):co (negQ l) i=-co l i:=co_map _ (by simp) l i
def derQ(l:List Rat):List Rat:=(List.range (l.length-1)).map fun i=>co l (i+1)*(((i+1:Nat):Int):Rat)
@[simp] theorem derQ_len(l:List Rat):(derQ l).length=l.length-1:=by simp[derQ]
end Nt
namespace Nt
def cmn(x y:Rat):Rat:=if x=0 then absQ y else if y=0 then x else absQ (x/(((x/y).num:Int):Rat))
def msr(l:List Rat):Rat:=l.foldl cmn 0
end Nt
namespace Nt
def mulQ:List Rat→List Rat→List Rat
 | [],m=>[]
 | a::l,m=>addQ (m.map (a*·)) (0::mulQ l m)
def sh(f:Nat→Rat)(k:Nat):Rat:=if k=0 then 0 else f (k-1)
theorem co_cons0(l:List Rat)(k:Nat):co (0::l) k=sh (co l) k:=by
 cases k with
 | zero=>rfl
 | succ k=>rw[zxu];simp[sh]
theorem zxd(a:Rat)(l m:List Rat)(k:Nat):co (mulQ (a::l) m) k=a*co m k+sh (co (mulQ l m)) k:=by
 show co (addQ (m.map (a*·)) (0::mulQ l m)) k=_;rw[addQ_co,co_map _ (by simp),co_cons0]
theorem mulQ_nil(m:List Rat)(k:Nat):co (mulQ [] m) k=0:=rfl
def inn(R:List Rat)(i:Nat)(x:Rat)(B:List Rat):Nat→List Rat
 | 0=>R
 | j+1=>(inn R i x B j).set (i+j) (co (inn R i x B j) (i+j)+x*co B j)
def outQ(A B:List Rat)(N:Nat):Nat→List Rat
 | 0=>List.replicate N 0
 | i+1=>inn (outQ A B N i) i (co A i) B B.length
@[simp] theorem inn_len(R:List Rat)(i:Nat)(x:Rat)(B:List Rat)(j:Nat):(inn R i x B j).length=R.length:=by
 induction j with
 | zero=>rfl
 | succ j ih=>simp[inn,ih]
@[simp] theorem outQ_len(A B:List Rat)(N i:Nat):(outQ A B N i).length=N:=by
 induction i with
 | zero=>simp[outQ]
 | succ i ih=>simp[outQ,ih]
theorem mulQ_zero{l:List Rat}(h:∀i,co l i=0)(m:List Rat)(k:Nat):co (mulQ l m) k=0:=by
 induction l generalizing k with
 | nil=>rfl
 | cons a l ih=>
  have ha:a=0:=h 0;have hl:∀i,co l i=0:=fun i=>by rw[←zxu a];exact h (i+1)
  rw[zxd,ha]
  unfold sh
  split
  ·grind
  rw[ih hl];grind
theorem zwh{l l' m m':List Rat}(h:∀i,co l i=co l' i)(h2:∀i,co m i=co m' i)(k:Nat):co (mulQ l m) k=co (mulQ l' m') k:=by
 induction l generalizing l' k with
 | nil=>
  rw[mulQ_nil,mulQ_zero (fun i=>by rw[←h i,co_nil])]
 | cons a l ih=>
  cases l' with
  | nil=>rw[mulQ_nil,mulQ_zero (fun i=>by rw[h i,co_nil])]
  | cons b l'=>
   have hab:a=b:=h 0;have hl:∀i,co l i=co l' i:=fun i=>by rw[←zxu a,←zxu b];exact h (i+1)
   rw[zxd,zxd,hab,h2]
   unfold sh
   split
   ·rfl
   rw[ih hl]
theorem mulQ_scale_l(c:Rat)(l m:List Rat)(k:Nat):co (mulQ (l.map (c*·)) m) k=c*co (mulQ l m) k:=by
 induction l generalizing k with
 | nil=>rw[List.map_nil,mulQ_nil];grind
 | cons a l ih=>
  rw[List.map_cons,zxd,zxd]
  unfold sh
  split
  ·grind
  rw[ih];grind
theorem mulQ_scale_r(c:Rat)(l m:List Rat)(k:Nat):co (mulQ l (m.map (c*·))) k=c*co (mulQ l m) k:=by
 induction l generalizing k with
 | nil=>rw[mulQ_nil,mulQ_nil];grind
 | cons a l ih=>
  rw[zxd,zxd,co_map _ (by simp)]
  unfold sh
  split
  ·grind
  rw[ih];grind
theorem mulQ_zero_r{m:List Rat}(h:∀i,co m i=0)(l:List Rat)(k:Nat):co (mulQ l m) k=0:=by
 have:=mulQ_scale_r 0 l m k;rw[Rat.zero_mul] at this;rw[←this];exact zwh (fun _=>rfl) (fun i=>by rw[co_map _ (by simp),h];simp) k
def kk(W t:Nat):Nat:=t*W+2
end Nt
namespace Nt
def Wh(x:Rat)(C:Nat):Prop:=∃z:Int,x=(z:Rat)∧z.natAbs≤2^C
def dg(C:Nat):Nat:=C/32+1
theorem Wh.more{x:Rat}{A C:Nat}(h:Wh x A)(k:A≤C):Wh x C:=by
 obtain⟨z,e,b⟩:=h;exact⟨z,e,Nat.le_trans b (Nat.pow_le_pow_right xq k)⟩
theorem Wh.zero(C:Nat):Wh 0 C:=⟨0,rfl,Nat.zero_le _⟩
theorem Wh.one(C:Nat):Wh 1 C:=⟨1,rfl,Nat.pos_of_ne_zero (by exact Nat.ne_of_gt (Nat.pow_pos xq))⟩
theorem Wh.mul{x y:Rat}{A B:Nat}(h:Wh x A)(k:Wh y B):Wh (x*y) (A+B):=by
 obtain⟨z,rfl,b⟩:=h;obtain⟨v,rfl,c⟩:=k;exact⟨z*v,by rw[Rat.intCast_mul],by rw[Int.natAbs_mul,Nat.pow_add];exact Nat.mul_le_mul b c⟩
theorem Wh.sub{x y:Rat}{A:Nat}(h:Wh x A)(k:Wh y A):Wh (x-y) (A+1):=by
 obtain⟨z,rfl,b⟩:=h;obtain⟨v,rfl,c⟩:=k;exact⟨z-v,by rw[Rat.intCast_sub],by rw[Nat.pow_succ];omega⟩
theorem Wh.add{x y:Rat}{A:Nat}(h:Wh x A)(k:Wh y A):Wh (x+y) (A+1):=by
 obtain⟨z,rfl,b⟩:=h;obtain⟨v,rfl,c⟩:=k;exact⟨z+v,by rw[Rat.intCast_add],by rw[Nat.pow_succ];omega⟩
theorem pwTwo(k:Nat):pw k=((2^(32*k):Nat):Int):=by
 induction k with
 | zero=>rfl
 | succ k ih=>
  rw[show 32*(k+1)=32*k+32 by omega,Nat.pow_add,Int.natCast_mul,←ih];show 4294967296*pw k=_;rw[Int.mul_comm];rfl
def mulN(n:Nat)(l:List Rat)(q:Rat):List Rat:=(List.range l.length).map fun i=>if i<n then co l i*q else co l i
@[simp] theorem mulN_len(n:Nat)(l:List Rat)(q:Rat):(mulN n l q).length=l.length:=by simp[mulN]
def subN(a:Nat)(c:Rat)(q t:List Rat):Nat→List Rat
 | 0=>t
 | j+1=>(subN a c q t j).set (a+j) ((subN a c q t j).getD (a+j) 0-c*q.getD j 0)
@[simp] theorem subN_len(a:Nat)(c:Rat)(q t:List Rat)(j:Nat):(subN a c q t j).length=t.length:=by
 induction j with
 | zero=>rfl
 | succ j ih=>simp[subN,ih]
structure DivR(p q s t:List Rat)(f:Rat):Prop where
 f0:f≠0
 eq:∀i,f*co p i=co (mulQ s q) i+co t i
 lt:t.length<q.length
 tl:t.length≤p.length
 sl:s.length≤p.length+1
end Nt
namespace Nt
structure Pol where
 l:List Rat
 h:Nrm l
namespace Pol
def mk'(l:List Rat):Pol:=⟨trimQ l,trim_nrm l⟩
def c(p:Pol)(i:Nat):Rat:=co p.l i
theorem mk_c(l:List Rat)(i:Nat):(mk' l).c i=co l i:=trim_co l i
theorem ext{p q:Pol}(h:∀i,p.c i=q.c i):p=q:=by
 obtain⟨l,hl⟩:=p;obtain⟨m,hm⟩:=q;have e:trimQ l=trimQ m:=trim_ext h
 unfold Nrm at hl hm
 rw[hl,hm] at e;subst e;rfl
theorem mk_l(p:Pol):mk' p.l=p:=ext fun i=>mk_c _ i
def C(a:Rat):Pol:=mk' [a]
instance(n:Nat):OfNat Pol n:=⟨C (n:Rat)⟩
instance:Add Pol:=⟨fun p q=>mk' (addQ p.l q.l)⟩
instance:Mul Pol:=⟨fun p q=>mk' (mulQ p.l q.l)⟩
instance:Neg Pol:=⟨fun p=>mk' (negQ p.l)⟩
instance:Sub Pol:=⟨fun p q=>p + -q⟩
def X:Pol:=mk' [0,1]
theorem c_add(p q:Pol)(i:Nat):(p+q).c i=p.c i+q.c i:=(mk_c _ i).trans (addQ_co _ _ i)
theorem c_neg(p:Pol)(i:Nat):(-p).c i=-p.c i:=(mk_c _ i).trans (negQ_co _ i)
theorem c_C(a:Rat)(i:Nat):(C a).c i=if i=0 then a else 0:=by
 unfold C
 rw[mk_c]
 cases i with
 | zero=>rfl
 | succ i=>rw[zxu,co_nil,if_neg xq]
theorem c_zero(i:Nat):(0:Pol).c i=0:=by
 have h:(0:Pol).c i=if i=0 then(0:Rat) else 0:=c_C 0 i
 rw[h];split<;>rfl
theorem zero_l:(0:Pol).l=[]:=zxy.2 fun i=>by
 have:=c_zero i
 unfold c at this
 show co [((0:Nat):Rat)] i=0;rw[←trim_co];exact this
theorem c_mul(p q:Pol)(i:Nat):(p*q).c i=co (mulQ p.l q.l) i:=mk_c _ i
theorem mk_cons(a:Rat)(l:List Rat)(i:Nat):(mk' (a::l)).c i=if i=0 then a else(mk' l).c (i-1):=by
 rw[mk_c]
 cases i with
 | zero=>rfl
 | succ i=>rw[zxu,if_neg xq,mk_c];rfl
theorem mulQ_consR(l:List Rat)(b:Rat)(m:List Rat)(k:Nat):co (mulQ l (b::m)) k=b*co l k+sh (co (mulQ l m)) k:=by
 induction l generalizing k with
 | nil=>
  rw[mulQ_nil,co_nil];have e:sh (co (mulQ [] m)) k=0:=by unfold sh;split<;>rfl
  rw[e];grind
 | cons a l ih=>
  rw[zxd]
  cases k with
  | zero=>unfold sh;rw[if_pos rfl,if_pos rfl,co_zero,co_zero];grind
  | succ k=>
   have e1:sh (co (mulQ l (b::m))) (k+1)=b*co l k+sh (co (mulQ l m)) k:=by
    unfold sh;rw[if_neg xq,Nat.add_sub_cancel];exact ih k
   have e2:sh (co (mulQ (a::l) m)) (k+1)=a*co m k+sh (co (mulQ l m)) k:=by
    unfold sh;rw[if_neg xq,Nat.add_sub_cancel];exact zxd a l m k
   rw[e1,e2,zxu,zxu];grind
theorem mulQ_comm(l m:List Rat)(k:Nat):co (mulQ l m) k=co (mulQ m l) k:=by
 induction l generalizing k with
 | nil=>
  rw[mulQ_nil];exact(mulQ_zero_r (m:=[]) (fun i=>co_nil i) m k).symm
 | cons a l ih=>
  rw[zxd,mulQ_consR];have e:sh (co (mulQ l m)) k=sh (co (mulQ m l)) k:=by unfold sh;split;rfl;exact ih _
  rw[e]
theorem mulQ_add(l l' m:List Rat)(k:Nat):co (mulQ (addQ l l') m) k=co (mulQ l m) k+co (mulQ l' m) k:=by
 induction m generalizing k with
 | nil=>
  rw[mulQ_zero_r (fun i=>co_nil i),mulQ_zero_r (fun i=>co_nil i),mulQ_zero_r (fun i=>co_nil i)];exact(Rat.add_zero 0).symm
 | cons b m ih=>
  rw[mulQ_consR,mulQ_consR,mulQ_consR,addQ_co]
  cases k with
  | zero=>unfold sh;rw[if_pos rfl,if_pos rfl,if_pos rfl];grind
  | succ k=>
   have e:∀x:List Rat,sh (co x) (k+1)=co x k:=fun x=>by unfold sh;rw[if_neg xq,Nat.add_sub_cancel]
   rw[e,e,e,ih k];grind
theorem mulQ_assoc(l m n:List Rat)(k:Nat):co (mulQ (mulQ l m) n) k=co (mulQ l (mulQ m n)) k:=by
 induction l generalizing k with
 | nil=>rfl
 | cons a l ih=>
  show co (mulQ (addQ (m.map (a*·)) (0::mulQ l m)) n) k=_;rw[mulQ_add,mulQ_scale_l,zxd,zxd]
  cases k with
  | zero=>unfold sh;rw[if_pos rfl,if_pos rfl];grind
  | succ k=>
   have e:∀x:List Rat,sh (co x) (k+1)=co x k:=fun x=>by unfold sh;rw[if_neg xq,Nat.add_sub_cancel]
   rw[e,e,ih k];grind
theorem mulQ_one(m:List Rat)(k:Nat):co (mulQ [1] m) k=co m k:=by
 rw[zxd];have e:sh (co (mulQ [] m)) k=0:=by unfold sh;split<;>rfl
 rw[e];grind
theorem mul_comm(p q:Pol):p*q=q*p:=ext fun i=>by rw[c_mul,c_mul,mulQ_comm]
theorem mul_assoc(p q r:Pol):p*q*r=p*(q*r):=ext fun i=>by
 rw[c_mul,c_mul];show co (mulQ (trimQ (mulQ p.l q.l)) r.l) i=co (mulQ p.l (trimQ (mulQ q.l r.l))) i;rw[zwh (l':=mulQ p.l q.l) (m':=r.l) (trim_co _) (fun _=>rfl),zwh (l':=p.l) (m':=mulQ q.l r.l) (fun _=>rfl) (trim_co _)];exact mulQ_assoc _ _ _ i
theorem one_mul(p:Pol):1*p=p:=ext fun i=>by
 rw[c_mul];show co (mulQ (trimQ [((1:Nat):Rat)]) p.l) i=_;rw[zwh (l':=[((1:Nat):Rat)]) (m':=p.l) (trim_co _) (fun _=>rfl)];exact mulQ_one _ i
theorem right_distrib(p q r:Pol):(p+q)*r=p*r+q*r:=ext fun i=>by
 rw[c_mul,c_add,c_mul,c_mul];show co (mulQ (trimQ (addQ p.l q.l)) r.l) i=_;rw[zwh (l':=addQ p.l q.l) (m':=r.l) (trim_co _) (fun _=>rfl)];exact mulQ_add _ _ _ i
theorem add_comm(p q:Pol):p+q=q+p:=ext fun i=>by rw[c_add,c_add];grind
theorem add_assoc(p q r:Pol):p+q+r=p+(q+r):=ext fun i=>by rw[c_add,c_add,c_add,c_add];grind
theorem add_zero(p:Pol):p+0=p:=ext fun i=>by rw[c_add,c_zero];grind
theorem neg_add_cancel(p:Pol):-p+p=0:=ext fun i=>by rw[c_add,c_neg,c_zero];grind
theorem zero_mul(p:Pol):0*p=0:=ext fun i=>by rw[c_mul,zero_l,mulQ_nil,c_zero]
theorem left_distrib(p q r:Pol):p*(q+r)=p*q+p*r:=by rw[mul_comm,right_distrib,mul_comm q,mul_comm r]
theorem mul_zero(p:Pol):p*0=0:=by rw[mul_comm,zero_mul]
theorem mul_one(p:Pol):p*1=p:=by rw[mul_comm,one_mul]
instance:NatCast Pol:=⟨fun n=>C (n:Rat)⟩
instance:IntCast Pol:=⟨fun n=>C (n:Rat)⟩
def npow(p:Pol):Nat→Pol
 | 0=>1
 | n+1=>npow p n*p
instance:HPow Pol Nat Pol:=⟨npow⟩
instance:SMul Nat Pol:=⟨fun n p=>C (n:Rat)*p⟩
instance:SMul Int Pol:=⟨fun n p=>C (n:Rat)*p⟩
theorem C_add(a b:Rat):C (a+b)=C a+C b:=ext fun i=>by
 rw[c_add,c_C,c_C,c_C];split<;>grind
theorem C_neg(a:Rat):C (-a)=-C a:=ext fun i=>by
 rw[c_neg,c_C,c_C];split<;>grind
instance:Lean.Grind.CommRing Pol where
 add_zero:=add_zero
 add_comm:=add_comm
 add_assoc:=add_assoc
 mul_assoc:=mul_assoc
 mul_one:=mul_one
 one_mul:=one_mul
 left_distrib:=left_distrib
 right_distrib:=right_distrib
 zero_mul:=zero_mul
 mul_zero:=mul_zero
 mul_comm:=mul_comm
 pow_zero:=fun p=>rfl
 pow_succ:=fun p n=>rfl
 neg_add_cancel:=neg_add_cancel
 sub_eq_add_neg:=fun p q=>rfl
 ofNat_succ:=fun n=>by
  show C ((n+1:Nat):Rat)=C (n:Rat)+C 1;rw[←C_add];congr 1;exact Rat.natCast_add n 1
 ofNat_eq_natCast:=fun n=>rfl
 intCast_ofNat:=fun n=>rfl
 intCast_neg:=fun n=>by
  show C ((-n:Int):Rat)=-C (n:Rat);rw[←C_neg,Rat.intCast_neg]
 nsmul_eq_natCast_mul:=fun n p=>rfl
 zsmul_natCast_eq_nsmul:=fun n p=>rfl
 neg_zsmul:=fun n p=>by
  show C ((-n:Int):Rat)*p=-(C (n:Rat)*p);rw[Rat.intCast_neg,C_neg];refine ext fun i=>?_;rw[c_neg,c_mul,c_mul];show co (mulQ (trimQ (negQ (C (n:Rat)).l)) p.l) i=_;rw[zwh (l':=negQ (C (n:Rat)).l) (m':=p.l) (trim_co _) (fun _=>rfl)];have e:negQ (C (n:Rat)).l=(C (n:Rat)).l.map ((-1)*·):=by unfold negQ;congr 1;funext x;grind
  rw[e,mulQ_scale_l];grind
example(p q:Pol):(p+q)*(p-q)=p*p-q*q:=by grind
example(p q:Pol):(p+q)^2=p^2+2*p*q+q^2:=by grind
end Pol
end Nt
namespace Nt
namespace Pol
def len(p:Pol):Nat:=p.l.length
theorem c_ge{p:Pol}{i:Nat}(h:p.len≤i):p.c i=0:=co_ge h
theorem zero_of_len{p:Pol}(h:p.len=0):p=0:=ext fun i=>by rw[c_zero,c_ge xq]
instance:Dvd Pol:=⟨fun q p=>∃u,p=q*u⟩
theorem mk_cons'(a:Rat)(l:List Rat):mk' (a::l)=C a+X*mk' l:=ext fun i=>by
 have hX:∀p:Pol,(X*p).c i=if i=0 then 0 else p.c (i-1):=fun p=>by
  rw[c_mul];show co (mulQ (trimQ [0,1]) p.l) i=_;rw[zwh (l':=[0,1]) (m':=p.l) (trim_co _) (fun _=>rfl),zxd]
  unfold sh
  split
  ·grind
  rw[mulQ_one];show 0*_+p.c (i-1)=_;grind
 rw[c_add,hX,mk_cons,c_C]
 split<;>grind
theorem ind{P:Pol→Prop}(h0:P 0)(h1:∀a p,P p→P (C a+X*p))(p:Pol):P p:=by
 rw[←mk_l p];generalize p.l=l
 induction l with
 | nil=>exact(zero_of_len (p:=mk' []) rfl) ▸ h0
 | cons a l ih=>rw[mk_cons'];exact h1 a _ ih
def D(p:Pol):Pol:=mk' (derQ p.l)
def evL:List Rat→Rat→Rat
 | [],x=>0
 | a::l,x=>a+x*evL l x
def ev(p:Pol)(x:Rat):Rat:=evL p.l x
end Pol
end Nt
namespace Nt
def prim(l:List Rat):List Rat:=(trimQ l).map (· / msr (trimQ l))
@[simp] theorem prim_len(l:List Rat):(prim l).length=(trimQ l).length:=by simp[prim]
end Nt
open Go.RowKit Go.ChangeShapes Go.WideShapes
namespace Nt
section
variable {l m:List Rat} {D E A B K:Nat} {q:Rat}
theorem dz(h:0<D):((D:Int):Rat)≠0:=fun e=>by
 have:=Rat.intCast_inj.1 (show((D:Int):Rat)=((0:Int):Rat) from e);omega
theorem dl_dg{n C:Nat}(h:n≤2^C):dl n≤dg C:=by
 refine dl_le ?_;rw[pwTwo];exact Int.ofNat_lt.2 (Nat.lt_of_le_of_lt h (Nat.pow_lt_pow_right xq (by unfold dg;omega)))
theorem wh_rs{x:Rat}(h0:0<D)(h:Wh (x*((D:Int):Rat)) A)(hD:D≤2^A):rs x≤dg A:=by
 obtain⟨z,hz,hb⟩:=h;have h1:=dz h0;have e:x=mkRat z D:=by rw[←mk_div,←hz];grind
 rw[e];exact rs_mk (dl_dg hb) (dl_dg hD) (by unfold dg;omega)
end
end Nt
end Go.Proofs.YtcpnfblekhgmgaaGreat
namespace Go.Proofs.YtcpnfblekhgmgaaGreat
open Nt
open Go.RowKit
structure PL where
 o:Int
 g:Int
 h:Int
def PL.cs(p:PL):List Value:=[.int .i64 p.o,.int .i64 p.g,.int .i64 p.h]
@[reducible] def PL.v(p:PL):Value:=.agg #[.int .i64 p.o,.int .i64 p.g,.int .i64 p.h]
section
variable {u u' w w':World} {L M:List PL} {p:PL} {n i c b off K:Nat} {x y:Sl}
theorem ints_data{cs:List Value}{t:TypeId}{l:List Int}(h:u.heap[b]? = some (.cells cs.toArray t (0,0)))(hc:cs.take n=l.map (Value.int .i64))(hl:cs.length=c)(hn:n≤c)(hm:c≤maxLen):SlR .i64 u (some ⟨b,0,none⟩) n c l:=by
 have hlen:l.length=n:=by have h9:=congrArg List.length hc;simp at h9;omega
 refine⟨hlen,hn,hm,fun hp=>⟨b,0,rfl,zyz h,fun i hi=>?_⟩⟩;rw[Nat.zero_add,cells_at h];have h9:(cs.take n)[i]? = (l.map (Value.int .i64))[i]? := by rw[hc]
 rw[List.getElem?_take_of_lt hi,List.getElem?_map,List.getElem?_eq_getElem (by omega:i<l.length)] at h9
 simp
 rw[h9,List.getElem?_eq_getElem (by omega:i<l.length)]
 rfl
end
section
variable {P:Program} {ops:Array Oper} {w0:Base} {u0:World} {S:St} {u u' w:World} {o:Oper} {p:List Tmp} {seq:Bool} {rest:List (Oper×List Tmp)} {K:St→World→Prop}
theorem sy_conv(d:Tmp){src dst:TypeId}{x:Operand}{k0 k:IntKind}{n:Int}(v:Int)(hT:∀w,(convert src dst (.int k0 n)).run P w=.ok (.int k (k.wrap n)) w)(hv:k.wrap n=v)(kk:sym P ops w0 u0 seq rest (S.set d (.v (.int k v))) u K)(hw:Wants ops o S:=by exact zwf xj)(hd:o.dst=some d:=by kernel_rfl)(hop:o.op=.convert src dst x:=by rfl)(hf:freeB S d=true:=by kernel_rfl)
  (hx:evO S x=some (.v (.int k0 n)):=by rfl):sym P ops w0 u0 seq ((o,p)::rest) S u K:=by
 subst hv;refine .inl ⟨by rw[hop];exact(by decide:(0:Nat)≠2),.set (.v (.int k (k.wrap n))),⟨zxx hd hf,.inl ⟨(fun t ht=>by cases ht),fun B a w u' hr he hdt=>⟨hw B a hr,?_⟩⟩⟩,?_⟩
 ·have e1:(execOp a.eval o).run P w=(do pure (Next.value (←convert src dst (a.eval x))):Sem Next).run P w:=by unfold execOp;rw[hop]
  rw[e1,ev_eval hr hx];exact run_val (hT w)
 show sym P ops w0 u0 seq rest (S.put o.dst (some _)) u K;rw[hd];exact kk
end
section
variable {u u':World} {A:Option Addr} {n c i:Nat} {l:List Int} {k:IntKind}
theorem ints_at(h:SlR k u A n c l)(hi:i<n):∃b o,A=some ⟨b,o,none⟩∧u.cell? ⟨b,o+i*1,none⟩=some (.int k (l.getD i 0)):=by
 obtain⟨h1,h2,h3,h4⟩:=h;obtain⟨b,o,e,_,hc⟩:=h4 xq;exact⟨b,o,e,by rw[Nat.mul_one];exact hc i hi⟩
theorem ints_bd{lo hi:Int}(h:∀z∈l,lo≤z∧z≤hi)(h0:lo≤0∧0≤hi)(i:Nat):lo≤l.getD i 0∧l.getD i 0≤hi:=by
 rw[qyg]
 cases e:l[i]? with
 | none=>exact h0
 | some z=>exact h z (List.mem_of_getElem? e)
end
end Go.Proofs.YtcpnfblekhgmgaaGreat

/- Parts of the proof: contracts of functions, each walked once, and plain laws. -/
import Derived.Test.YtcpnfblekhgmgaaGreatDcoF
import Derived.IntWalk
import Derived.ScopeJumps
set_option linter.unusedVariables false
set_option maxHeartbeats 8000000
namespace Go.Proofs.YtcpnfblekhgmgaaGreat
open Nt
open Go.RowKit
theorem own_strip{w0 w:World}{B:Nat}{A:Option Addr}{n c:Nat}{l:List Int}(h:OwnK .u32 w B 77 A n c l)(hd:Dig l)(hB:w0.heap.size≤B):NatF w0 w A (strip l).length c (Nt.val l).toNat:=by
 have e:=zxs hd;have hl:=zyh l;have h1:=h.1;have hx:=h.slr.upto (m:=(strip l).length) xq;rw[←strip_take,e] at hx;refine⟨by rw[e],by rw[e];exact hx,fun hp=>?_⟩;obtain⟨a,ha,hb,ht⟩:=h.ty xq;exact⟨a,ha,by omega,ht⟩
theorem Nt.raise_val{q s:Nat}{a S:List Int}(hq:q=s/32)(h:Nt.val S=Nt.val a*2^(s%32)):Nt.val (List.replicate q 0++S)=Nt.val a*2^s:=by
 rw[val_append,val_repl,h,p2_pw s,←hq]
 simp
 rw[Int.mul_comm,Int.mul_assoc]
theorem Nt.bitl_le_len(l:List Int)(h:Dig l):bitl (Nt.val l).toNat≤32*l.length:=by
 rcases Nat.eq_zero_or_pos (Nt.val l).toNat with h0|h0
 ·rw[h0];exact Nat.zero_le _
 have h1:=val_lt h;rw[pw_two] at h1;have h2:=bitl_le h0;have h3:2^(bitl (Nt.val l).toNat-1)<2^(32*l.length):=by omega
 have:=(Nat.pow_lt_pow_iff_right (show 1<2 by omega)).1 h3
 omega
theorem Nt.dl_shift{N K s:Nat}(h:dl N≤K):dl (N*2^s)≤K+s/32+1:=by
 apply dl_le
 have h1:=dl_lt (x:=N);have h2:=pw_mono h;rw[pw_two] at h1 ⊢;rw[pw_two,pw_two] at h2;have h3:N<2^(32*K):=by omega
 have h4:N*2^s<2^(32*K)*2^s:=Nat.mul_lt_mul_of_pos_right h3 (Nat.pow_pos xq);rw[←Nat.pow_add] at h4;have h5:2^(32*K+s)≤2^(32*(K+s/32+1)):=Nat.pow_le_pow_right xq xq;have h6:=Nat.lt_of_lt_of_le h4 h5
 exact_mod_cast h6
theorem raise_any(A:Option Addr)(n c s:Nat)(a:List Int)(w:World)(ha:SlR .u32 w A n c a)(da:Dig a)(hn:n≤1000000000)(hs:s≤65536):
  qyc 171 #[.slice A n c,.int .i64 s] w fun e w'=>∃A' n' c',e=.returned (.slice A' n' c')∧NatF w w' A' n' c' (Nt.val a*2^s).toNat∧Below w.heap.size w w':=by
 rcases Nat.eq_zero_or_pos n with h0|h0
 ·subst h0
  have hz:Hid ((Nt.val a*2^s).toNat=0):=by
   have e1:a=[]:=List.eq_nil_of_length_eq_zero ha.1;show _=_;rw[e1];simp[Nt.val]
  clear da ha
  go_enter Tryz.func171,Tryz.ntmps171
  go_wp2
  go_ret
  refine⟨none,0,0,rfl,?_,Below.refl _ _⟩;rw[hz.out];exact⟨by rw[zxa];rfl,by rw[zxa];exact SlR.nil _ _ _ (Nat.zero_le _),fun h=>absurd h xq⟩
 have hn0:((n:Int)==0)=false:=by rw[beq_eq_false_iff_ne];omega
 obtain⟨q,hq1,hq2⟩:∃q,32*q≤s∧s<32*q+32:=⟨s/32,by omega,by omega⟩
 have hqs:Hid (q=s/32):=by show _=_;omega
 have ac:s%32<32:=by omega
 have Hda:=Lib.hid da;clear da
 go_enter Tryz.func171,Tryz.ntmps171
 go_wp2_with (at_make;refine wpList_makeKC _ rfl (.tmp 10) (.tmp 16) _ rfl 77 .u32 4 Tryz.underlying31 zxj _ _ _ _ q (q+n+1) rfl rfl ?L ?C ?nm ?b2 ?b3 ?_)
 case L=>show _=_;omega
 case C=>show _=_;omega
 case nm=>omega
 case b2=>omega
 case b3=>unfold maxLen;omega
 intro w2 af ab ag;have hx2:=ha.below ab;have HB2:=Lib.hid ab;clear ag ab ha
 go_wp2_with fail
 refine(lift_any A n c (s%32) (n+1) a w2 hx2 Hda.out hn ac (.inr rfl)).mono ?_;rintro e w3 ⟨g,rfl,⟨S,lo,hg,hk,hSl,hSd,hlo,hlo0,hv⟩,aa⟩;have hlo0:=hlo0 rfl;rw[hlo0] at hv;have hval:=raise_val hqs.out (a:=a) (S:=S) xq;have hs3:=Lib.hid (hk.slr_all (n:=n+1) (c:=n+1) hSl qyl yv);have hk3:=Lib.hid (af.below aa);have Hval:=Lib.hid hval;have Hd:=Lib.hid (Dig.append (Dig.repl q) hSd);have ae:Hid (Below w.heap.size w w3):=HB2.out.trans (aa.mono HB2.out.size);have hw3:=ae.out.size;clear hval hv hk hg af hlo hlo0 hSl hSd hx2 aa
 go_wp2_with (at_builtin;refine zxh _ rfl (.tmp 18) (.tmp 26) _ rfl 77 .u32 4 Tryz.underlying31 zxj w.heap.size (some ⟨w.heap.size,0,none⟩) q (q+n+1) (List.replicate q 0) rfl ?own (some ⟨g,0,none⟩) (n+1) (n+1) S rfl ?slr ?h63 ?hby ?hbase ?_)
 case own=>exact hk3.out
 case slr=>exact hs3.out
 case h63=>unfold maxLen;omega
 case hby=>omega
 case hbase=>omega
 intro A3 c3 w4 ho ad;have HO:=Lib.hid ho;have ah:Hid (Below w.heap.size w w4):=ae.out.trans ad;clear hs3 hk3 ho ad
 go_wp2_with fail
 refine(zwj _ _ _ _ _ HO.out.slr).mono ?_;rintro e w5 ⟨rfl,rfl⟩
 go_wp2
 go_ret
 have hf:=own_strip HO.out Hd.out qyl;rw[Hval.out] at hf;exact⟨_,_,_,rfl,hf,ah.out⟩
theorem Shift_pos(A:Option Addr)(n c s:Nat)(a:List Int)(w:World)(ha:SlR .u32 w A n c a)(da:Dig a)(hn:n≤1000000000)(hs:s≤65536):
  qyc 115 #[.slice A n c,.int .i64 s] w fun e w'=>∃A' n' c',e=.returned (.slice A' n' c')∧NatF w w' A' n' c' (Nt.val a*2^s).toNat∧Below w.heap.size w w':=by
 have lx:(strip a).length≤n:=by rw[←ha.1];exact zyh a
 have hx:=ha.upto (m:=(strip a).length) lx;rw[←strip_take] at hx;have hd:=strip_dig da;have hv:=zwn a;have hsd:decide (65536<(s:Int))=false:=by simp;omega
 have hbl:=bitl_le_len (strip a) hd;have hraise:=raise_any A (strip a).length c s (strip a) w hx hd xq hs;have hbit:=BitLen_any A (strip a).length c (strip a) w hx hd xq;rw[hv] at hraise hbit hbl
 have hz:bitl (Nt.val a).toNat=0→Nt.val a=0:=fun h=>by
  have h1:=bitl_lt (Nt.val a).toNat;have h2:=zxc da;rw[h] at h1
  simp at h1
  omega
 generalize bitl (Nt.val a).toNat=B at *;have hcut:=zwj A n c a w ha;generalize (strip a).length=m at *
 by_cases h0:(s:Int)≤-(B:Int)
 ·have aa:Hid ((Nt.val a*2^s).toNat=0):=by
   show _=_;rw[hz xq];simp
  have hle:decide ((s:Int)≤-(B:Int))=true:=decide_eq_true h0;clear hx ha hd hv hraise hz h0
  go_enter Tryz.func115,Tryz.ntmps115
  go_wp2_with fail
  refine hcut.mono ?_;rintro e w1 ⟨rfl,rfl⟩
  go_wp2_with fail
  refine hbit.mono ?_;rintro e w1 ⟨rfl,rfl⟩
  go_wp2
  go_ret
  refine⟨none,0,0,rfl,?_,Below.refl _ _⟩;rw[aa.out];exact⟨by rw[zxa];rfl,by rw[zxa];exact SlR.nil _ _ _ (Nat.zero_le _),fun h=>absurd h xq⟩
 have hle:decide ((s:Int)≤-(B:Int))=false:=decide_eq_false h0;clear hx ha hd hv hz
 go_enter Tryz.func115,Tryz.ntmps115
 go_wp2_with fail
 refine hcut.mono ?_;rintro e w1 ⟨rfl,rfl⟩
 go_wp2_with fail
 refine hbit.mono ?_;rintro e w1 ⟨rfl,rfl⟩
 go_wp2_with fail
 refine hraise.mono ?_;rintro e w1 ⟨A1,n1,c1,rfl,f1,ab⟩;have F1:=Lib.hid f1;clear f1
 go_wp2
 go_ret
 exact⟨A1,n1,c1,rfl,F1.out,ab⟩
theorem k_natShift{u w:World}{x:Sl}{N K s:Nat}(d:Dat u w)(h1:NatV u x N K)(hK:K≤500000000)(hs:s≤65536):qyc 115 #[x.v,.int .i64 (s:Int)] w (Post u w fun v u'=>∃x:Sl,v=x.v∧NatN u' x (N*2^s) (K+s/32+1)):=by
 have hs1:=h1.size;obtain⟨a,a1,a2,a3,a4⟩:=h1;refine(Shift_pos _ _ _ _ _ _ (a1.ext d.ext) a2 xq hs).mono fun e w' ⟨A',n',c',h⟩=>?_;rw[a4] at h;exact post_nat d (nat_fits h (by simp[Int.natCast_mul,Int.natCast_pow])) (dl_shift hs1)
theorem k_rnShift{u w:World}{x:Sl}{N K s:Nat}(d:Dat u w)(h1:NatV u x N K)(hK:K≤500000000)(hs:s≤65536):qyc 178 #[x.v,.int .i64 (s:Int)] w (Post u w fun v u'=>∃x:Sl,v=x.v∧NatN u' x (N*2^s) (K+s/32+1)):=by
 have hs1:=h1.size;obtain⟨a,a1,a2,a3,a4⟩:=h1;refine(rShift_pos _ _ _ _ _ _ (a1.ext d.ext) a2 xq hs).mono fun e w' ⟨A',n',c',h⟩=>?_;rw[a4] at h;exact post_nat d (nat_fits ⟨h.1,h.2.1.nat,h.2.2⟩ (by simp[Int.natCast_mul,Int.natCast_pow])) (dl_shift hs1)
theorem k_intDivP{u w:World}{i1:IL}{y:Sl}{zN:Int}{M K L:Nat}(d:Dat u w)(hi:IntV u i1 zN K)(hy:NatV u y M L)(hM:0<M)(hK:K≤100000000)(hL:L≤100000000):qyc 150 #[i1.v,.agg #[.bool false,y.v]] w (Post u w fun v u'=>∃i j:IL,v=.tuple #[i.v,j.v,.int .i64 0]∧IntN u' i (zN/(M:Int)) (K+1)∧IntN u' j (zN%(M:Int)) L):=by
 have hL1:1≤L:=by have h2:=hy.size;have h3:=dl_mono (x:=M) (y:=1) xq;rw[dl_one] at h3;omega
 obtain⟨N,hN,hzN⟩:=hi;refine zzl Tryz.func150 rfl Tryz.ntmps150 Tryz.results150 d ?_;refine sq9 (zzj 2 ⟨33,i1.cs⟩ (zzj 3 ⟨33,[.bool false,y.v]⟩ (zzj 4 ⟨33,[.bool false,qyn]⟩ (zzj 5 ⟨33,[.bool false,qyn]⟩ (zza 6 (zI 0) (zzb (sq9 (zza 11 (.adr 2 1) (zzh 12 (.v (i1.m.v)) ty31 zzk (zza 13 (.adr 3 1) (zzh 14 (.v (y.v)) ty31 zzk ?_)))))))))));refine zzg 15 162 _ fun _ _ aj a2=>qym (k_natDivMod a2 (hN.ext aj) (hy.ext aj) hM xq xq) ?_;rintro _ u16 aN ⟨ac,aa,rfl,ao,ad⟩;refine zza 10 (.v (.tuple #[ac.v,aa.v,.int .i64 0])) (zza 16 (.v (ac.v)) (zza 17 (.v (aa.v)) (zza 18 (zI 0) (zza 7 (.v (ac.v)) (zza 8 (.v (aa.v)) (zza 9 (zI 0) (zzb (zzd (sq9 (zza 19 (zI 0) (zza 20 (zB false) ?_)))))))))));refine zzb (zyr xj (zzr (zzo ?_)));refine zzd (sq9 (zza 24 (.adr 2 0) (zzh 25 (zB i1.s) ty4 zzk ?_)))
 rcases Bool.eq_false_or_eq_true i1.s with hs19|hs19
 ·refine qbi 26 hs19 (zza 27 (.v (aa.v)) ?_ (hw:=w1 2 true 26));refine zza 28 (zI aa.n) ?_ (hw:=w1 2 true 26);refine zza 29 (zB (decide ((0:Int)<(aa.n:Int)))) ?_ (hw:=w1 2 true 26);refine zza 30 (zB (decide ((0:Int)<(aa.n:Int)))) (zzb (zzt (b:=decide ((0:Int)<(aa.n:Int))) xj (fun ab=>?_) (fun ab=>?_)))
  ·have qhb20:=qyt ab;refine sq9 (zza 31 (.v (ac.v)) (zxw 32 ⟨77,[.int .u32 1]⟩ 1 (fun b21 u22 ak aW=>?_)));refine zzg 33 167 _ fun _ _ ag a0=>qym (k_natAdd a0 (ao.ext (ak.trans ag)).raw ((one_data aW).ext ag).raw xq xq) ?_;rintro _ u28 aD ⟨aq,rfl,aX⟩;refine zza 7 (.v (aq.v)) (zzb (zzf (zza 34 (.adr 3 1) (zzh 35 (.v (y.v)) ty31 zzk (zza 36 (.v (aa.v)) (zzg 37 168 _ fun _ _ am aJ=>qym (k_natSub aJ (hy.ext xe) (ad.ext xe).raw xq xq) ?_))))));rintro _ u34 aR ⟨ap,rfl,aK⟩;refine zza 8 (.v (ap.v)) (zzc 47 [(2,.adr 2 0),(3,.adr 3 0),(4,.adr 4 0),(5,.adr 5 0),(7,.v (aq.v)),(8,.v (ap.v))] [(2,⟨33,i1.cs⟩),(3,⟨33,[.bool false,y.v]⟩),(4,⟨33,[.bool false,qyn]⟩),(5,⟨33,[.bool false,qyn]⟩)] (sq9 (zza 38 (.adr 2 0) (zzh 39 (zB i1.s) ty4 zzk (zza 40 (.adr 3 0) (zzh 41 (zB false) ty4 zzk (zza 42 (zB (!(i1.s==false))) (zza 43 (.v (aq.v)) (zzg 44 137 _ fun _ _ aw aL=>qym (k_signed aL (s := !(i1.s==false)) (aX.ext xe)) ?_)))))))));rintro _ u40 aG ⟨an,rfl,aE⟩;refine zza 45 (.v (ap.v)) (zzg 46 137 _ fun _ _ aA aH=>qym (k_signed aH (s:=false) (aK.ext xe)) ?_);rintro _ u46 aF ⟨al,rfl,aZ⟩;refine zzi ⟨33,an.cs⟩ ty33 ?_;refine zzi ⟨33,al.cs⟩ ty33 ?_;refine zza 6 (zI 0) (zzb (zzn (ret0 [an.v,al.v,.int .i64 0] ⟨zzq ty33 zze,zzq ty33 zze,zzp,trivial⟩ fun u49 au=>?_)));have hrp:=ad.pos;have e9:=hs19;have key:=rdiv1 (N:=N) hM xq;have g1:=(aE.ext (aA.t (aF.t au)))
   have g2:=(aZ.ext au)
   rw[e9] at g1;rw[e9] at hzN;have hK1:1≤K:=by have h2:=hN.size;have h3:=(dl_pos (x:=N)).2 (by rcases Nat.eq_zero_or_pos N with e|e;(rw[e,Nat.zero_mod] at hrp;omega);exact e);omega
   rw[hzN];refine⟨an,al,rfl,IntN.more (K:=(max K 1+1)) ?_ xq,IntN.more (K:=L) ?_ xq⟩
   ·rw[key.1];exact g1
   rw[key.2];exact g2
  have qhb20:=qyf ab;refine zzr (zzo ?_);refine sq9 (zza 38 (.adr 2 0) (zzh 39 (zB i1.s) ty4 zzk (zza 40 (.adr 3 0) (zzh 41 (zB false) ty4 zzk (zza 42 (zB (!(i1.s==false))) (zza 43 (.v (ac.v)) (zzg 44 137 _ fun _ _ av a3=>qym (k_signed a3 (s := !(i1.s==false)) (ao.ext av)) ?_)))))));rintro _ u54 aT ⟨ah,rfl,aY⟩;refine zza 45 (.v (aa.v)) (zzg 46 137 _ fun _ _ ax aS=>qym (k_signed aS (s:=false) (ad.ext xe)) ?_);rintro _ u60 aU ⟨ai,rfl,aV⟩;refine zzi ⟨33,ah.cs⟩ ty33 ?_;refine zzi ⟨33,ai.cs⟩ ty33 ?_;refine zza 6 (zI 0) (zzc 47 [(4,.adr 4 0),(5,.adr 5 0),(6,zI 0)] [(4,⟨33,ah.cs⟩),(5,⟨33,ai.cs⟩)] (zzn (ret0 [ah.v,ai.v,.int .i64 0] ⟨zzq ty33 zze,zzq ty33 zze,zzp,trivial⟩ fun u63 ar=>?_)));have hrp:=ad.pos;have key:=rdiv0 (s:=i1.s) (N:=N) hM (by rintro ⟨k1,k2⟩;omega);have g1:=(aY.ext (ax.t (aU.t ar)))
  have g2:=(aV.ext ar)
  rw[hzN];refine⟨ah,ai,rfl,IntN.more (K:=K) ?_ xq,IntN.more (K:=L) ?_ xq⟩
  ·rw[key.1];exact g1
  rw[key.2];exact g2
 refine qbi 26 hs19 (zzm 27 (uw 2 true false 26) (zzm 28 (uw 2 true false 26) (zzm 29 (uw 2 true false 26) (zza 30 (zB false) (zzb (zyr xj (zzr (zzo ?_))))))));refine sq9 (zza 38 (.adr 2 0) (zzh 39 (zB i1.s) ty4 zzk (zza 40 (.adr 3 0) (zzh 41 (zB false) ty4 zzk (zza 42 (zB (!(i1.s==false))) (zza 43 (.v (ac.v)) (zzg 44 137 _ fun _ _ aB aQ=>qym (k_signed aQ (s := !(i1.s==false)) (ao.ext aB)) ?_)))))));rintro _ u68 aI ⟨af,rfl,aP⟩;refine zza 45 (.v (aa.v)) (zzg 46 137 _ fun _ _ ay aO=>qym (k_signed aO (s:=false) (ad.ext xe)) ?_);rintro _ u74 a1 ⟨ae,rfl,aM⟩;refine zzi ⟨33,af.cs⟩ ty33 ?_;refine zzi ⟨33,ae.cs⟩ ty33 ?_;refine zza 6 (zI 0) (zzc 47 [(4,.adr 4 0),(5,.adr 5 0),(6,zI 0)] [(4,⟨33,af.cs⟩),(5,⟨33,ae.cs⟩)] (zzn (ret0 [af.v,ae.v,.int .i64 0] ⟨zzq ty33 zze,zzq ty33 zze,zzp,trivial⟩ fun u77 az=>?_)));have hrp:=ad.pos;have key:=rdiv0 (s:=i1.s) (N:=N) hM (by rintro ⟨k1,k2⟩;rw[k1] at hs19;exact absurd hs19 xw);have g1:=(aP.ext (ay.t (a1.t az)))
 have g2:=(aM.ext az)
 rw[hzN];refine⟨af,ae,rfl,IntN.more (K:=K) ?_ xq,IntN.more (K:=L) ?_ xq⟩
 ·rw[key.1];exact g1
 rw[key.2];exact g2
theorem k_double{u w:World}{i:IL}{z:Int}{K s:Nat}(d:Dat u w)(hi:IntV u i z K)(hK:K≤100000000)(hs:s≤65536):qyc 113 #[i.v,.int .i64 (s:Int)] w (Post u w fun v u'=>∃y:Sl,v=.agg #[.bool i.s,y.v]∧IntV u' ⟨i.s,y⟩ (z*((2^s:Nat):Int)) (K+s/32+1)):=by
 refine zzl Tryz.func113 rfl Tryz.ntmps113 Tryz.results113 d ?_;refine sq9 (zzj 2 ⟨33,i.cs⟩ (zzj 4 ⟨33,[.bool false,qyn]⟩ (zzb (zzd (zzy [0,1,0,4,0,28,63,127] [(0,[]),(1,[]),(2,[]),(3,[]),(4,[]),(5,[]),(6,[]),(7,[])] xj xj (zza 5 (.adr 2 0) (zzh 6 (zB i.s) ty4 zzk (zza 7 (.adr 2 1) (zzh 8 (.v (i.m.v)) ty31 zzk (zza 9 (zI s) (zzg 10 115 _ fun _ _ ad ae=>qym (k_natShift (s:=s) ae ((IntV.abs hi).ext ad) xq xq) ?_)))))))))));rintro _ u14 g15 ⟨aa,rfl,af⟩;refine zza 11 (.v (.agg #[.bool i.s,aa.v])) (zzi ⟨33,[.bool i.s,aa.v]⟩ ty33 ?_);refine zzb (zzn (ret0 [.agg #[.bool i.s,aa.v]] ⟨zzq ty33 zze,trivial⟩ fun u17 ac=>?_));obtain⟨N9,hN9,ab⟩:=hi;refine⟨aa,rfl,?_⟩;rw[ab,←sg_mulN];have h9:=IntV.same (s:=i.s) (af.ext ac).raw;rw[ab] at h9;exact h9
theorem k_onGrid{u w:World}{i:IL}{y:Sl}{z:Int}{D K L s:Nat}(d:Dat u w)(hi:IntV u i z K)(hy:NatV u y D L)(hD:0<D)(hK:K≤10000000)(hL:L≤10000000)(hs:s≤65536):qyc 114 #[i.v,y.v,.int .i64 (s:Int)] w (Post u w fun v u'=>∃r:RL,v=r.v∧RatN u' r (mkRat (z/(D:Int)) (2^s)) (K+s/32+3)):=by
 have am:0<1*2^s:=by rw[Nat.one_mul];exact Nat.pow_pos xw
 refine zzl Tryz.func114 rfl Tryz.ntmps114 Tryz.results114 d ?_;refine sq9 (zzj 3 ⟨33,i.cs⟩ (zzj 6 ⟨35,zw3⟩ (zzb (zzd (zzy [0,0,2,7,15,31,31,31,0,0,831,1919,4095] [(0,[]),(1,[]),(8,[]),(9,[]),(2,[]),(3,[]),(4,[]),(5,[]),(6,[]),(7,[]),(10,[]),(11,[]),(12,[])] xj xj (zzh 11 (.v (i.v)) ty33 zze (zza 12 (.v (y.v)) (zzj 7 ⟨33,[.bool false,qyn]⟩ (zzj 8 ⟨33,[.bool false,qyn]⟩ (zzg 13 106 _ fun _ _ af ay=>qym (k_natural (x:=y) ay) ?_))))))))));rintro _ u12 aj rfl;refine zzg 14 150 _ fun _ _ ah ak=>qym (k_intDivP ak (hi.ext xe) (hy.ext xe) hD xq xq) ?_;rintro _ u20 g21 ⟨ab,ae,rfl,al,h19⟩;refine zza 10 (.v (.tuple #[ab.v,ae.v,.int .i64 0])) (zza 15 (.v (ab.v)) (zza 16 (.v (ae.v)) (zza 17 (zI 0) (zzi ⟨33,ab.cs⟩ ty33 ?_))));refine zzi ⟨33,ae.cs⟩ ty33 ?_;refine zza 9 (zI 0) (zzb (zzd (zzy [0,0,0,6,15,31,63] [(0,[]),(1,[]),(2,[]),(3,[19]),(4,[]),(5,[]),(6,[])] xj xj (zzh 18 (.v (ab.v)) ty33 zze (sy_lit 19 ⟨77,[.int .u32 1]⟩ 1 ?_)))));refine zza 20 (zI s) (zyn 21 115 [.slc 19 0 1 1,zI s] [19] (.inr rfl) (pub_mk xz) (k:=?_));intro ac w23 aw ao aq ar;have ag:aw.heap[ac 19]? = some (.cells #[.int .u32 1] 77 (0,0)):=ar 19 (by simp) _ rfl;obtain⟨b24,aa⟩:∃b,ac 19=b:=⟨_,rfl⟩
 rw[aa] at ag;show Calls _ _ #[.slice (some ⟨ac 19,0,none⟩) 1 1,.int .i64 (s:Int)] _ _;rw[aa];have k30:=k_natShift (s:=s) aq (one_data ag).raw xq xq
 with_reducible refine zPm k30 ?_
 rintro _ u28 az ⟨au,rfl,av⟩;refine zza 22 (.v (.agg #[.bool ab.s,ab.m.v,au.v])) (zzg 23 108 _ fun _ _ ai an=>qym (k_lowest an (al.ext xe).raw (av.ext ai).raw am xq xq) ?_);rintro _ u34 g35 ⟨ad,rfl,ap⟩;refine zzi ⟨35,ad.cs⟩ ty35 ?_;refine zzb (zzn (ret0 [ad.v] ⟨zzq ty35 zze,trivial⟩ fun u37 ax=>?_));refine⟨ad,rfl,RatN.more (K:=(max (K+1) (1+s/32+1))) ?_ xq⟩;have h9:=(ap.ext ax)
 rw[Nat.one_mul] at h9;exact h9
theorem k_downG{u w:World}{r:RL}{q:Rat}{K:Nat}{k:Nat}(hk:k≤256)(d:Dat u w)(hr:RatV u r q K)(hK:K≤1000000):qyc 187 #[r.v,.int .i64 (k:Int)] w (Post u w fun v u'=>∃p:RL,v=.tuple #[p.v,.int .i64 0]∧RatN u' p (dnQ q k) (K+20)):=by
 refine zzl Tryz.func187 rfl Tryz.ntmps187 Tryz.results187 d ?_;refine sq9 (zzj 2 ⟨35,r.cs⟩ (zzj 4 ⟨35,zw3⟩ (zza 5 (zI 0) (zzb (zzd (sq9 (zza 7 (zI k) (zza 8 (zB (decide ((k:Int)<0))) (zqB 9 (show(decide ((k:Int)<0))=false from decide_eq_false xq) (zza 10 (zI k) ?_ (hw:=w1 2 false 9)))))))))));refine zza 11 (zB (decide ((256:Int)<(k:Int)))) ?_ (hw:=w1 2 false 9);refine zza 12 (zB (decide ((256:Int)<(k:Int)))) (zzb (zzt (b:=decide ((256:Int)<(k:Int))) xj (fun hb=>?_) (fun hb=>?_)))
 ·exact absurd hb (by rw[show(decide ((256:Int)<(k:Int)))=false from decide_eq_false xq];decide)
 clear hb;refine zzr (zzo ?_);refine sq9 (zzh 14 (.v (r.v)) ty35 zze (zzg 15 103 _ fun _ _ au ar=>qym (k_read ar (hr.ext au)) ?_));rintro _ u14 g15 ⟨ab,ag,rfl,z13,D13,ad,ae,aa,af,ap,aq⟩;refine zzj 6 ⟨124,[.bool false,qyn,qyn,.bool false]⟩ (zzi ⟨124,ab.cs++[.bool ag]⟩ ty124 ?_);refine zzb (zzd (zzy [0,1,3,0,15,0,32,96,0,511,1023,2047] [(0,[]),(1,[]),(2,[]),(3,[]),(5,[]),(6,[]),(7,[]),(8,[]),(4,[]),(9,[]),(10,[]),(11,[])] xj xj (zza 16 (.adr 6 0) (zza 17 (.adr 6 0) (zzh 18 (.v (.agg #[.bool ab.s,ab.m.v])) ty33 zze (zza 19 (zI k) (zza 21 (.adr 6 0) (zza 22 (.adr 6 2) (zzh 23 (.v (ab.d.v)) ty31 zzk (zza 24 (zI k) (zzg 20 113 _ fun _ _ ai am=>qym (k_double (s:=k) am (ad.ext ai) xq xq) ?_)))))))))));rintro _ u20 an ⟨y18,rfl,al⟩;refine zzg 25 114 _ fun _ _ ah ao=>qym (k_onGrid (s:=k) ao (al.ext ah) (ae.ext xe) aa xq xq xq) ?_;rintro _ u26 g27 ⟨ac,rfl,ak⟩;refine zzi ⟨35,ac.cs⟩ ty35 ?_;refine zza 5 (zI 0) (zzb (zzn (ret0 [ac.v,.int .i64 0] ⟨zzq ty35 zze,zzp,trivial⟩ fun u29 aj=>?_)));refine⟨ac,rfl,RatN.more (K:=((K+k/32+1)+k/32+3)) ?_ xq⟩;rw[af,dn_mk aa];exact(ak.ext aj)
theorem k_upG{u w:World}{r:RL}{q:Rat}{K:Nat}{k:Nat}(hk:k≤256)(d:Dat u w)(hr:RatV u r q K)(hK:K≤1000000):qyc 188 #[r.v,.int .i64 (k:Int)] w (Post u w fun v u'=>∃p:RL,v=.tuple #[p.v,.int .i64 0]∧RatN u' p (-dnQ (-q) k) (K+20)):=by
 refine zzl Tryz.func188 rfl Tryz.ntmps188 Tryz.results188 d ?_;refine sq9 (zzj 2 ⟨35,r.cs⟩ (zzj 4 ⟨35,zw3⟩ (zza 5 (zI 0) (zzb (sq9 (zzh 9 (.v (r.v)) ty35 zze (zzg 10 139 _ fun _ _ aj ak=>qym (k_flip (r:=r) ak) ?_)))))));rintro _ u12 ac rfl;refine zza 11 (zI k) (zzg 12 187 _ fun _ _ ad af=>qym (k_downG (k:=k) xq af ((flip_rat (hr.ext xe)).ext ad) xq) ?_);rintro _ u18 g19 ⟨aa,rfl,ai⟩;refine zza 8 (.v (.tuple #[aa.v,.int .i64 0])) (zza 13 (.v (aa.v)) (zza 14 (zI 0) (zzj 6 ⟨35,zw3⟩ (zzi ⟨35,aa.cs⟩ ty35 ?_))));refine zza 7 (zI 0) (zzb (zzd (sq9 (zza 15 (zI 0) (zza 16 (zB false) (zzb (zyr xj (zzr (zzo ?_)))))))));refine sq9 (zzh 19 (.v (aa.v)) ty35 zze (zzg 20 97 _ fun _ _ ah al=>qym (k_ratNeg al (ai.ext ah).raw xq) ?_));rintro _ u24 g25 ⟨ab,rfl,ag⟩;refine zzi ⟨35,ab.cs⟩ ty35 ?_;refine zza 5 (zI 0) (zzb (zzn (ret0 [ab.v,.int .i64 0] ⟨zzq ty35 zze,zzp,trivial⟩ fun u27 ae=>?_)));refine⟨ab,rfl,RatN.more (K:=(K+20)) ?_ xq⟩;exact(ag.ext ae)
theorem k_unit{u w:World}{k:Nat}(d:Dat u w)(hk:k≤65536):qyc 122 #[.int .i64 (k:Int)] w (Post u w fun v u'=>∃r:RL,v=r.v∧RatN u' r (((2^k:Nat):Int):Rat) (k/32+2)):=by
 refine zzl Tryz.func122 rfl Tryz.ntmps122 Tryz.results122 d ?_;refine sq9 (zzj 2 ⟨35,zw3⟩ (zzb (sq9 (zxw 3 ⟨77,[.int .u32 1]⟩ 1 (fun b11 u12 e13 af=>?_)))));refine zza 4 (zI k) (zzg 5 178 _ fun _ _ ad ae=>qym (k_rnShift (s:=k) ae ((one_data af).ext ad).raw xq xq) ?_);rintro _ u18 g19 ⟨aa,rfl,ag⟩;refine zza 6 (.v (.agg #[.bool false,aa.v])) (zxw 7 ⟨77,[.int .u32 1]⟩ 1 (fun ab u22 ai ah=>?_));refine zza 8 (.v (.agg #[.bool false,aa.v,.slice (some ⟨ab,0,none⟩) 1 1])) (zzi ⟨35,[.bool false,aa.v,.slice (some ⟨ab,0,none⟩) 1 1]⟩ ty35 ?_);refine zzb (zzn (ret0 [.agg #[.bool false,aa.v,.slice (some ⟨ab,0,none⟩) 1 1]] ⟨zzq ty35 zze,trivial⟩ fun u25 ac=>?_));refine⟨(⟨false,aa,(⟨some ⟨ab,0,none⟩,1,1⟩:Sl)⟩:RL),rfl,?_⟩;have h9:=whole_rat (nat_intN (ag.ext (ai.trans ac))) ((one_data ah).ext ac);rw[Nat.one_mul] at h9;exact h9.more xq
theorem k_floor{u w:World}{r:RL}{q:Rat}{K:Nat}(d:Dat u w)(hr:RatV u r q K)(hK:K≤10000000):qyc 123 #[r.v] w (Post u w fun v u'=>∃i:IL,v=i.v∧IntN u' i (flr q) (K+1)):=by
 refine zzl Tryz.func123 rfl Tryz.ntmps123 Tryz.results123 d ?_;refine sq9 (zzj 1 ⟨35,r.cs⟩ (zzj 2 ⟨33,[.bool false,qyn]⟩ (zzb (sq9 (zzh 9 (.v (r.v)) ty35 zze (zzg 10 41 _ fun _ _ aj ap=>qym (k_parts ap (hr.ext aj) xq) ?_))))));rintro _ u13 g14 ⟨ac,ad,z12,al,rfl,af,ag,ab,ae,ak⟩;refine zza 8 (.v (.tuple #[ac.v,ad.v])) (zza 11 (.v (ac.v)) (zza 12 (.v (ad.v)) (zzj 3 ⟨33,[.bool false,qyn]⟩ (zzj 4 ⟨33,[.bool false,qyn]⟩ (zzi ⟨33,ac.cs⟩ ty33 ?_)))));refine zzi ⟨33,ad.cs⟩ ty33 ?_;refine zzb (sq9 (zzh 14 (.v (ac.v)) ty33 zze (zzh 15 (.v (ad.v)) ty33 zze (zzg 16 95 _ fun _ _ ai am=>qym (k_riDiv am (af.ext ai) (ag.ext ai).raw (show((al:Nat):Int)≠0 by have h9:=ab;omega) xq xq) ?_))));rintro _ u21 g22 ⟨aa,ah,rfl,ao,h20⟩;refine zza 13 (.v (.tuple #[aa.v,ah.v,.int .i64 0])) (zza 17 (.v (aa.v)) (zza 18 (.v (ah.v)) (zza 19 (zI 0) (zzj 5 ⟨33,[.bool false,qyn]⟩ (zzj 6 ⟨33,[.bool false,qyn]⟩ (zzi ⟨33,aa.cs⟩ ty33 ?_))))));refine zzi ⟨33,ah.cs⟩ ty33 ?_;refine zza 7 (zI 0) (zzb (sq9 (zzh 20 (.v (aa.v)) ty33 zze (zzi ⟨33,aa.cs⟩ ty33 ?_))));refine zzb (zzn (ret0 [aa.v] ⟨zzq ty33 zze,trivial⟩ fun u24 an=>?_));refine⟨aa,rfl,IntN.more (K:=(K+1)) ?_ xq⟩;rw[ae,flr_mk ab];exact(ao.ext an)
theorem k_bad{u w:World}{n:Int}(d:Dat u w):qyc 131 #[.int .i64 n] w (Post u w fun v _=>v=.bool (decide (n<0∨256<n))):=by
 refine zzl Tryz.func131 rfl Tryz.ntmps131 Tryz.results131 d ?_;refine sq9 (zza 2 (zB false) (zzb (sq9 (zza 3 (zI n) (zza 4 (zB (decide (n<0))) ?_)))))
 rcases Bool.eq_false_or_eq_true (decide (n<0)) with hs11|hs11
 ·refine qbi 5 hs11 ?_;have qhs11:=qyt hs11;refine zzm 6 (uw 2 false true 5) (zzm 7 (uw 2 false true 5) (zza 8 (zB true) (zza 2 (zB true) (zzb (zzn (ret0 [.bool true] ⟨zzp,trivial⟩ fun u12 e13=>?_))))));show Value.bool _=Value.bool _
  congr 1
  symm
  exact decide_eq_true (.inl (qyt hs11))
 refine qbi 5 hs11 ?_;have qhs11:=qyf hs11;refine zza 6 (zI n) ?_ (hw:=w1 2 false 5);refine zza 7 (zB (decide ((256:Int)<n))) ?_ (hw:=w1 2 false 5);refine zza 8 (zB (decide ((256:Int)<n))) (zza 2 (zB (decide ((256:Int)<n))) (zzb (zzn (ret0 [.bool (decide ((256:Int)<n))] ⟨zzp,trivial⟩ fun u14 e15=>?_))));show Value.bool _=Value.bool _
 congr 1
 symm
 have h9:=qyf hs11
 by_cases h8:(256:Int)<n
 ·rw[decide_eq_true h8];exact decide_eq_true (.inr h8)
 rw[decide_eq_false h8];exact decide_eq_false xq
theorem k_rdown{u w:World}{r:RL}{q:Rat}{K k:Nat}(hk:k≤256)(d:Dat u w)(hr:RatV u r q K)(hK:K≤1000000):qyc 132 #[r.v,.int .i64 (k:Int)] w (Post u w fun v u'=>∃p:RL,v=p.v∧RatN u' p (dnQ q k) (K+40)):=by
 refine zzl Tryz.func132 rfl Tryz.ntmps132 Tryz.results132 d ?_;refine sq9 (zzj 2 ⟨35,r.cs⟩ (zzj 4 ⟨35,zw3⟩ (zzb (sq9 (zza 6 (zI k) (zzg 7 122 _ fun _ _ al az=>qym (k_unit (k:=k) az xq) ?_))))));rintro _ u14 ax ⟨ac,rfl,ah⟩;refine zzj 5 ⟨35,zw3⟩ (zzi ⟨35,ac.cs⟩ ty35 ?_);refine zzb (zzd (zzy [0,0,3,7,0,31,0,127,255] [(0,[]),(1,[]),(4,[]),(6,[]),(2,[]),(3,[]),(5,[]),(7,[12,13]),(8,[])] xj xj (zzh 8 (.v (r.v)) ty35 zze (zzh 9 (.v (ac.v)) ty35 zze (sy_lit 12 ⟨77,[.int .u32 1]⟩ 1 ?_)))));refine zzh 14 (.v (ac.v)) ty35 zze (zzg 10 13 _ fun _ _ ae ar=>qym (k_rqMul ar (hr.ext xe) (ah.ext ae).raw xq xq) ?_);rintro _ u20 aq ⟨r18,rfl,an⟩;refine zzg 11 123 _ fun _ _ ai au=>qym (k_floor au (an.ext ai).raw xq) ?_;rintro _ u26 aw ⟨ab,rfl,am⟩;refine zza 13 (.ags ab.cs 12 0 1 1) (zyn 15 64 [.ags ab.cs 12 0 1 1,.v (ac.v)] [12,13] (.inr rfl) (pub_mk xz) (k:=?_));intro af w29 ao ag ak av;have aj:ao.heap[af 12]? = some (.cells #[.int .u32 1] 77 (0,0)):=av 12 (by simp) _ rfl;obtain⟨b30,aa⟩:∃b,af 12=b:=⟨_,rfl⟩
 rw[aa] at aj;show Calls _ _ #[.agg #[.bool ab.s,.slice ab.m.a ab.m.n ab.m.c,.slice (some ⟨af 12,0,none⟩) 1 1],ac.v] _ _;rw[aa];have k36:=k_rqOver ak (rat_mk2 (s:=ab.s) (am.ext ag).raw (one_data aj).raw) (ah.ext (ae.t (aq.t (ai.t (aw.t ag))))).raw xq xq
 with_reducible refine zPm k36 ?_
 rintro _ u34 g35 ⟨ad,rfl,ap⟩;refine zzi ⟨35,ad.cs⟩ ty35 ?_;refine zzb (zzn (ret0 [ad.v] ⟨zzq ty35 zze,trivial⟩ fun u37 ay=>?_));refine⟨ad,rfl,RatN.more (K:=((max (max ((K+(k/32+2)+1)+1) 1) 1)+(k/32+2)+2)) ?_ xq⟩
 unfold dnQ
 rw[Rat.mkRat_eq_div];have h9:=(ap.ext ay)
 rw[mk_one] at h9;exact h9
theorem k_rdownG{u w:World}{r:RL}{q:Rat}{K:Nat}{k:Nat}(hk:k≤256)(d:Dat u w)(hr:RatV u r q K)(hK:K≤1000000):qyc 176 #[r.v,.int .i64 (k:Int)] w (Post u w fun v u'=>∃p:RL,v=.tuple #[p.v,.int .i64 0]∧RatN u' p (dnQ q k) (K+60)):=by
 refine zzl Tryz.func176 rfl Tryz.ntmps176 Tryz.results176 d ?_;refine sq9 (zzj 2 ⟨35,r.cs⟩ (zzj 4 ⟨35,zw3⟩ (zza 5 (zI 0) (zzb (zzd (sq9 (zza 6 (zI k) (zzg 7 131 _ fun _ _ ag ah=>qym (k_bad (n:=(k:Int)) ah) ?_))))))));rintro _ u12 ab rfl;refine zzb (zzt (b:=decide ((k:Int)<0∨256<(k:Int))) xj (fun hb=>?_) (fun hb=>?_))
 ·exact absurd hb (by rw[show(decide ((k:Int)<0∨256<(k:Int)))=false from decide_eq_false xq];decide)
 clear hb;refine zzr (zzo ?_);refine sq9 (zzh 9 (.v (r.v)) ty35 zze (zza 10 (zI k) (zzg 11 132 _ fun _ _ ad ae=>qym (k_rdown (k:=k) xq ae (hr.ext xe) xq) ?_)));rintro _ u18 g19 ⟨aa,rfl,af⟩;refine zzi ⟨35,aa.cs⟩ ty35 ?_;refine zza 5 (zI 0) (zzb (zzn (ret0 [aa.v,.int .i64 0] ⟨zzq ty35 zze,zzp,trivial⟩ fun u21 ac=>?_)));refine⟨aa,rfl,RatN.more (K:=(K+40)) ?_ xq⟩;exact(af.ext ac)
theorem k_rupG{u w:World}{r:RL}{q:Rat}{K:Nat}{k:Nat}(hk:k≤256)(d:Dat u w)(hr:RatV u r q K)(hK:K≤1000000):qyc 177 #[r.v,.int .i64 (k:Int)] w (Post u w fun v u'=>∃p:RL,v=.tuple #[p.v,.int .i64 0]∧RatN u' p (-dnQ (-q) k) (K+60)):=by
 refine zzl Tryz.func177 rfl Tryz.ntmps177 Tryz.results177 d ?_;refine sq9 (zzj 2 ⟨35,r.cs⟩ (zzj 4 ⟨35,zw3⟩ (zza 5 (zI 0) (zzb (zzd (sq9 (zza 6 (zI k) (zzg 7 131 _ fun _ _ af am=>qym (k_bad (n:=(k:Int)) am) ?_))))))));rintro _ u12 aj rfl;refine zzb (zzt (b:=decide ((k:Int)<0∨256<(k:Int))) xj (fun hb=>?_) (fun hb=>?_))
 ·exact absurd hb (by rw[show(decide ((k:Int)<0∨256<(k:Int)))=false from decide_eq_false xq];decide)
 clear hb;refine zzr (zzo ?_);refine sq9 (zzh 9 (.v (r.v)) ty35 zze (zzg 10 62 _ fun _ _ ai ab=>qym (k_rqNeg ab (hr.ext xe) xq) ?_));rintro _ u18 g19 ⟨r16,rfl,ae⟩;refine zza 11 (zI k) (zzg 12 132 _ fun _ _ ad ag=>qym (k_rdown (k:=k) xq ag (ae.ext ad).raw xq) ?_);rintro _ u24 g25 ⟨r22,rfl,ac⟩;refine zzg 13 62 _ fun _ _ an ak=>qym (k_rqNeg ak (ac.ext an).raw xq) ?_;rintro _ u30 g31 ⟨aa,rfl,al⟩;refine zzi ⟨35,aa.cs⟩ ty35 ?_;refine zza 5 (zI 0) (zzb (zzn (ret0 [aa.v,.int .i64 0] ⟨zzq ty35 zze,zzp,trivial⟩ fun u33 ah=>?_)));refine⟨aa,rfl,RatN.more (K:=(K+40)) ?_ xq⟩;exact(al.ext ah)
namespace Nt
theorem lo_neg(a b:Rat):lo (-a) (-b)=-hi a b∧hi (-a) (-b)=-lo a b:=by unfold lo hi;grind
theorem lohi9(x y:Rat):lo (lo x y) (hi x y)=lo x y∧hi (lo x y) (hi x y)=hi x y:=lo_of_le (lo_le_hi x y)
theorem sub_ends(a b:Rat)(x:Rat):x+lo (lo (-a) (-b)) (hi (-a) (-b))=x-hi a b∧x+hi (lo (-a) (-b)) (hi (-a) (-b))=x-lo a b:=by
 rw[(lohi9 _ _).1,(lohi9 _ _).2,(lo_neg a b).1,(lo_neg a b).2,Rat.sub_eq_add_neg,Rat.sub_eq_add_neg];exact⟨rfl,rfl⟩
theorem lo4_swap(a b c d:Rat):lo4 a b c d=lo4 b a d c:=by unfold lo4 lo;grind
theorem hi4_swap(a b c d:Rat):hi4 a b c d=hi4 b a d c:=by unfold hi4 hi;grind
theorem over4(x y m n:Rat):lo4 (x*lo m n) (x*hi m n) (y*lo m n) (y*hi m n)=lo4 (x*m) (x*n) (y*m) (y*n)∧hi4 (x*lo m n) (x*hi m n) (y*lo m n) (y*hi m n)=hi4 (x*m) (x*n) (y*m) (y*n):=by
 rcases Rat.le_total (a:=m) (b:=n) with h|h
 ·rw[(lo_of_le h).1,(lo_of_le h).2];exact⟨rfl,rfl⟩
 have e:lo m n=n∧hi m n=m:=by unfold lo hi;grind
 rw[e.1,e.2];exact⟨lo4_swap _ _ _ _,hi4_swap _ _ _ _⟩
theorem mul_over(x y:Rat):x*(((1:Int):Rat)/y)=x/y:=by
 rw[Rat.div_def,Rat.div_def]
 simp
def divO(x1 x2 y1 y2:Rat):Option (Rat×Rat):=if sgI y1 y2=0 then none else some (lo4 (x1/y1) (x1/y2) (x2/y1) (x2/y2),hi4 (x1/y1) (x1/y2) (x2/y1) (x2/y2))
def divE(y1 y2:Rat):Int:=if sgI y1 y2=0 then 3 else 0
def rndO(x1 x2:Rat)(n:Int):Option (Rat×Rat):=if n<0∨256<n then none else some (dnQ (lo x1 x2) n.toNat,-dnQ (-hi x1 x2) n.toNat)
def rndE(n:Int):Int:=if n<0∨256<n then 1 else 0
end Nt
def OptI(u:World)(a b:RL)(o:Option (Rat×Rat))(K:Nat):Prop:=match o with|none=>a=rl0∧b=rl0|some (p,q)=>RatN u a p K∧RatN u b q K
theorem OptI.ext{u u':World}{a b:RL}{o:Option (Rat×Rat)}{K:Nat}(h:OptI u a b o K)(e:Ext u u'):OptI u' a b o K:=by
 cases o with
 | none=>exact h
 | some x=>exact⟨h.1.ext e,h.2.ext e⟩
theorem k_r4Mid{u w:World}{a1 a2:RL}{x1 x2:Rat}{K:Nat}(d:Dat u w)(ha1:RatV u a1 x1 K)(ha2:RatV u a2 x2 K)(hK:K≤4000000):qyc 24 #[IV a1 a2] w (Post u w fun v u'=>∃p:RL,v=p.v∧RatN u' p ((x1+x2)*(((1:Int):Rat)/((2:Int):Rat))) (K+K+6)):=by
 refine zzl Tryz.func24 rfl Tryz.ntmps24 Tryz.results24 d ?_;refine sq9 (zzj 1 ⟨45,a1.cs++a2.cs⟩ (zzj 2 ⟨35,zw3⟩ (zzb (sq9 (zza 3 (.adr 1 0) (zzh 4 (.v (a1.v)) ty35 zze (zza 5 (.adr 1 3) (zzh 6 (.v (a2.v)) ty35 zze (zzg 7 67 _ fun _ _ ab al=>qym (k_rqAdd al (ha1.ext ab) (ha2.ext ab) xq xq) ?_)))))))));rintro _ u14 g15 ⟨r12,rfl,ae⟩;refine zzg 8 57 _ fun _ _ ak ah=>qym (k_rqFrac ah (a:=1) (b:=2) xq xq xq xq) ?_;rintro _ u20 ai ⟨r18,rfl,ag⟩;refine zzg 9 13 _ fun _ _ ac aj=>qym (k_rqMul aj (ae.ext xe).raw (ag.ext ac).raw xq xq) ?_;rintro _ u26 g27 ⟨aa,rfl,af⟩;refine zzi ⟨35,aa.cs⟩ ty35 ?_;refine zzb (zzn (ret0 [aa.v] ⟨zzq ty35 zze,trivial⟩ fun u29 ad=>?_));exact⟨aa,rfl,RatN.more (K:=((K+K+2)+3+1)) (af.ext ad) xq⟩
theorem k_r4neg{u w:World}{a1 a2:RL}{x1 x2:Rat}{K:Nat}(d:Dat u w)(ha1:RatV u a1 x1 K)(ha2:RatV u a2 x2 K)(hK:K≤4000000):qyc 82 #[IV a1 a2] w (Post u w fun v u'=>∃p q:RL,v=IV p q∧RatN u' p (Nt.lo (-x1) (-x2)) K∧RatN u' q (Nt.hi (-x1) (-x2)) K):=by
 refine zzl Tryz.func82 rfl Tryz.ntmps82 Tryz.results82 d ?_;refine sq9 (zzj 1 ⟨45,a1.cs++a2.cs⟩ (zzj 2 ⟨45,zw6⟩ (zzb (zzd (zzy [0,1,3,0,8,31,63,127] [(0,[]),(1,[]),(3,[]),(4,[]),(2,[]),(5,[]),(6,[]),(7,[])] xj xj (zza 3 (.adr 1 0) (zzh 4 (.v (a1.v)) ty35 zze (zza 6 (.adr 1 3) (zzh 7 (.v (a2.v)) ty35 zze (zzg 5 62 _ fun _ _ ac ao=>qym (k_rqNeg ao (ha1.ext ac) xq) ?_))))))))));rintro _ u14 an ⟨r12,rfl,ag⟩;refine zzg 8 62 _ fun _ _ af aj=>qym (k_rqNeg aj (ha2.ext xe) xq) ?_;rintro _ u20 ak ⟨r18,rfl,ai⟩;refine zzg 9 37 _ fun _ _ ad al=>qym (k_r4Make al (ag.ext xe).raw (ai.ext ad).raw xq) ?_;rintro _ u28 g29 ⟨aa,ab,rfl,ah,am⟩;refine zzi ⟨45,aa.cs++ab.cs⟩ ty45 ?_;refine zzb (zzn (ret0 [.agg #[.bool aa.s,aa.m.v,aa.d.v,.bool ab.s,ab.m.v,ab.d.v]] ⟨zzq ty45 zze,trivial⟩ fun u31 ae=>?_));refine⟨aa,ab,rfl,RatN.more (K:=K) ?_ xq,RatN.more (K:=K) ?_ xq⟩
 ·exact(ah.ext ae)
 exact(am.ext ae)
theorem k_r4Sub{u w:World}{a1 a2:RL}{x1 x2:Rat}{b1 b2:RL}{y1 y2:Rat}{K L:Nat}(d:Dat u w)(ha1:RatV u a1 x1 K)(ha2:RatV u a2 x2 K)(hb1:RatV u b1 y1 L)(hb2:RatV u b2 y2 L)(hK:K≤4000000)(hL:L≤4000000):qyc 36 #[IV a1 a2,IV b1 b2] w (Post u w fun v u'=>∃p q:RL,v=IV p q∧RatN u' p (Nt.lo x1 x2-Nt.hi y1 y2) (K+L+2)∧RatN u' q (Nt.hi x1 x2-Nt.lo y1 y2) (K+L+2)):=by
 refine zzl Tryz.func36 rfl Tryz.ntmps36 Tryz.results36 d ?_;refine sq9 (zzj 2 ⟨45,a1.cs++a2.cs⟩ (zzj 3 ⟨45,b1.cs++b2.cs⟩ (zzj 4 ⟨45,zw6⟩ (zzb (zzd (zzy [0,0,2,7,15] [(0,[]),(1,[]),(2,[]),(3,[]),(4,[])] xj xj (zzh 5 (.v (.agg #[.bool a1.s,a1.m.v,a1.d.v,.bool a2.s,a2.m.v,a2.d.v])) ty45 zze (zzh 6 (.v (.agg #[.bool b1.s,b1.m.v,b1.d.v,.bool b2.s,b2.m.v,b2.d.v])) ty45 zze (zzg 7 82 _ fun _ _ ac al=>qym (k_r4neg al (hb1.ext ac) (hb2.ext ac) xq) ?_)))))))));rintro _ u16 af ⟨r12,r14,rfl,ak,ah⟩;refine zzg 8 81 _ fun _ _ ad ai=>qym (k_r4Add ai (ha1.ext xe) (ha2.ext xe) (ak.ext ad).raw (ah.ext ad).raw xq xq) ?_;rintro _ u24 g25 ⟨ab,aa,rfl,ag,aj⟩;refine zzi ⟨45,ab.cs++aa.cs⟩ ty45 ?_;refine zzb (zzn (ret0 [.agg #[.bool ab.s,ab.m.v,ab.d.v,.bool aa.s,aa.m.v,aa.d.v]] ⟨zzq ty45 zze,trivial⟩ fun u27 ae=>?_));refine⟨ab,aa,rfl,RatN.more (K:=(K+L+2)) ?_ xq,RatN.more (K:=(K+L+2)) ?_ xq⟩
 ·rw[←(sub_ends y1 y2 _).1];exact(ag.ext ae)
 rw[←(sub_ends y1 y2 _).2];exact(aj.ext ae)
theorem k_r4Sign{u w:World}{a1 a2:RL}{x1 x2:Rat}{K:Nat}(d:Dat u w)(ha1:RatV u a1 x1 K)(ha2:RatV u a2 x2 K)(hK:K≤4000000):qyc 63 #[IV a1 a2] w (Post u w fun v u'=>v=.int .i64 (sgI x1 x2)):=by
 refine zzl Tryz.func63 rfl Tryz.ntmps63 Tryz.results63 d ?_;refine sq9 (zzj 1 ⟨45,a1.cs++a2.cs⟩ (zza 2 (zI 0) (zzb (sq9 (zzh 3 (.v (.agg #[.bool a1.s,a1.m.v,a1.d.v,.bool a2.s,a2.m.v,a2.d.v])) ty45 zze (zzg 4 83 _ fun _ _ ac am=>qym (k_r4Trim am (ha1.ext ac) (ha2.ext ac) xq) ?_))))));rintro _ u16 g17 ⟨af,ae,rfl,ah,aj⟩;refine zzi ⟨45,af.cs++ae.cs⟩ ty45 ?_;refine zzb (zzd (zzs (sq9 (zza 6 (.adr 1 0) (zzh 7 (.v (af.v)) ty35 zze (zzg 8 129 _ fun _ _ ad ak=>qym (k_rqSign ak (ah.ext ad).raw xq) ?_))))));rintro _ u20 ai rfl;refine zza 9 (zB (decide ((0:Int)<(sgQ (Nt.lo x1 x2))))) (zza 5 (zB (decide ((0:Int)<(sgQ (Nt.lo x1 x2))))) (zzb (zzt (b:=decide ((0:Int)<(sgQ (Nt.lo x1 x2)))) xj (fun aa=>?_) (fun aa=>?_))))
 ·have qhb23:=qyt aa;refine sq9 (zza 2 (zI 1) (zzb (zzn (zyt (zzv (ret0 [.int .i64 1] ⟨zzp,trivial⟩ fun u24 e25=>?_))))));show _=_
  unfold sgI
  rw[sgQ_gt] at aa;rw[if_pos (qyt aa)]
  rfl
 have qhb23:=qyf aa;refine sq9 (zza 11 (.adr 1 3) (zzh 12 (.v (ae.v)) ty35 zze (zzg 13 129 _ fun _ _ ag al=>qym (k_rqSign al (aj.ext xe).raw xq) ?_)));rintro _ u27 g28 rfl;refine zza 14 (zB (decide ((sgQ (Nt.hi x1 x2))<0))) (zza 10 (zB (decide ((sgQ (Nt.hi x1 x2))<0))) (zzb (zzt (b:=decide ((sgQ (Nt.hi x1 x2))<0)) xj (fun ab=>?_) (fun ab=>?_))))
 ·have qhb30:=qyt ab;refine sq9 (zza 2 (zI (-1)) (zzb (zzn (zyt (zzv (ret0 [.int .i64 (-1)] ⟨zzp,trivial⟩ fun u31 e32=>?_))))));show _=_
  unfold sgI
  rw[sgQ_gt] at aa;rw[if_neg (qyf aa)];rw[sgQ_lt] at ab;rw[if_pos (qyt ab)]
  rfl
 have qhb30:=qyf ab;refine zzr (zzo ?_);refine sq9 (zza 2 (zI 0) (zzb (zzn (ret0 [.int .i64 0] ⟨zzp,trivial⟩ fun u33 e34=>?_))));show _=_
 unfold sgI
 rw[sgQ_gt] at aa;rw[if_neg (qyf aa)];rw[sgQ_lt] at ab;rw[if_neg (qyf ab)]
 rfl
theorem k_r4Square{u w:World}{a1 a2:RL}{x1 x2:Rat}{K:Nat}(d:Dat u w)(ha1:RatV u a1 x1 K)(ha2:RatV u a2 x2 K)(hK:K≤4000000):qyc 125 #[IV a1 a2] w (Post u w fun v u'=>∃p q:RL,v=IV p q∧RatN u' p (if sgI x1 x2=0 then 0 else Nt.lo (x1*x1) (x2*x2)) (K+K+3)∧RatN u' q (Nt.hi (x1*x1) (x2*x2)) (K+K+3)):=by
 refine zzl Tryz.func125 rfl Tryz.ntmps125 Tryz.results125 d ?_;refine sq9 (zzj 1 ⟨45,a1.cs++a2.cs⟩ (zzj 2 ⟨45,zw6⟩ (zzb (zzd (zzy [0,1,0,4,15,0,32,0,128,511,1023,0,4095] [(0,[]),(1,[]),(2,[]),(3,[]),(5,[]),(6,[]),(7,[]),(8,[]),(11,[]),(4,[]),(9,[]),(10,[]),(12,[])] xj xj (zza 4 (.adr 1 0) (zzh 5 (.v (a1.v)) ty35 zze (zza 6 (.adr 1 0) (zzh 7 (.v (a1.v)) ty35 zze (zza 9 (.adr 1 3) (zzh 10 (.v (a2.v)) ty35 zze ?_)))))))))));refine zza 11 (.adr 1 3) (zzh 12 (.v (a2.v)) ty35 zze (zzj 3 ⟨45,zw6⟩ (zzg 8 13 _ fun _ _ ae aA=>qym (k_rqMul aA (ha1.ext ae) (ha1.ext ae) xq xq) ?_)));rintro _ u14 ai ⟨r12,rfl,aq⟩;refine zzg 13 13 _ fun _ _ ag aw=>qym (k_rqMul aw (ha2.ext xe) (ha2.ext xe) xq xq) ?_;rintro _ u20 aj ⟨r18,rfl,av⟩;refine zzg 14 37 _ fun _ _ ah ay=>qym (k_r4Make ay (aq.ext xe).raw (av.ext ah).raw xq) ?_;rintro _ u28 ao ⟨ab,aa,rfl,au,an⟩;refine zzi ⟨45,ab.cs++aa.cs⟩ ty45 ?_;refine zzb (zzd (sq9 (zzh 15 (.v (.agg #[.bool a1.s,a1.m.v,a1.d.v,.bool a2.s,a2.m.v,a2.d.v])) ty45 zze (zzg 16 63 _ fun _ _ af ar=>qym (k_r4Sign ar (ha1.ext xe) (ha2.ext xe) xq) ?_))));rintro _ u32 ak rfl;refine zza 17 (zB ((sgI x1 x2)==0)) (zzb (zzt (b:=(sgI x1 x2)==0) xj (fun ad=>?_) (fun ad=>?_)))
 ·refine zzf (zzg 18 14 _ fun _ _ ap az=>qym (k_rqOf az (z:=0) xq xq) ?_);rintro _ u39 aB ⟨ac,rfl,ax⟩;refine zza 19 (.adr 3 0) (zzi ⟨45,ac.cs++aa.cs⟩ ty35 ?_);refine zzb (sq9 (zzh 20 (.v (.agg #[.bool ac.s,ac.m.v,ac.d.v,.bool aa.s,aa.m.v,aa.d.v])) ty45 zze (zzi ⟨45,ac.cs++aa.cs⟩ ty45 ?_)));refine zzb (zzn (ret0 [.agg #[.bool ac.s,ac.m.v,ac.d.v,.bool aa.s,aa.m.v,aa.d.v]] ⟨zzq ty45 zze,trivial⟩ fun u42 am=>?_));refine⟨ac,aa,rfl,RatN.more (K:=2) ?_ xq,RatN.more (K:=(K+K+1)) ?_ xq⟩
  ·rw[if_pos (by simpa using ad)];exact(ax.ext am)
  exact(an.ext xe)
 refine zzr (zzo ?_);refine sq9 (zzh 20 (.v (.agg #[.bool ab.s,ab.m.v,ab.d.v,.bool aa.s,aa.m.v,aa.d.v])) ty45 zze (zzi ⟨45,ab.cs++aa.cs⟩ ty45 ?_));refine zzb (zzn (ret0 [.agg #[.bool ab.s,ab.m.v,ab.d.v,.bool aa.s,aa.m.v,aa.d.v]] ⟨zzq ty45 zze,trivial⟩ fun u44 al=>?_));refine⟨ab,aa,rfl,RatN.more (K:=(K+K+1)) ?_ xq,RatN.more (K:=(K+K+1)) ?_ xq⟩
 ·rw[if_neg (by simpa using ad)];exact(au.ext xe)
 exact(an.ext xe)
theorem k_r4Div{u w:World}{a1 a2:RL}{x1 x2:Rat}{b1 b2:RL}{y1 y2:Rat}{K L:Nat}(d:Dat u w)(ha1:RatV u a1 x1 K)(ha2:RatV u a2 x2 K)(hb1:RatV u b1 y1 L)(hb2:RatV u b2 y2 L)(hK:K≤4000000)(hL:L≤4000000):qyc 22 #[IV a1 a2,IV b1 b2] w (Post u w fun v u'=>∃p q:RL,v=.tuple #[IV p q,.int .i64 (divE y1 y2)]∧OptI u' p q (divO x1 x2 y1 y2) (K+L+20)):=by
 refine zzl Tryz.func22 rfl Tryz.ntmps22 Tryz.results22 d ?_;refine sq9 (zzj 2 ⟨45,a1.cs++a2.cs⟩ (zzj 3 ⟨45,b1.cs++b2.cs⟩ (zzj 4 ⟨45,zw6⟩ (zza 5 (zI 0) (zzb (zzd (sq9 (zzh 6 (.v (.agg #[.bool b1.s,b1.m.v,b1.d.v,.bool b2.s,b2.m.v,b2.d.v])) ty45 zze (zzg 7 63 _ fun _ _ ab aH=>qym (k_r4Sign aH (hb1.ext ab) (hb2.ext ab) xq) ?_)))))))));rintro _ u12 al rfl;refine zza 8 (zB ((sgI y1 y2)==0)) (zzb (zzt (b:=(sgI y1 y2)==0) xj (fun aa=>?_) (fun aa=>?_)))
 ·refine sq9 (zza 9 (.v (.agg #[.bool false,qyn,qyn,.bool false,qyn,qyn])) (zzi ⟨45,zw6⟩ ty45 ?_));refine zza 5 (zI 3) (zzb (zzn (zzv (ret0 [.agg #[.bool false,qyn,qyn,.bool false,qyn,qyn],.int .i64 3] ⟨zzq ty45 zze,zzp,trivial⟩ fun u16 e17=>?_))));have h0:sgI y1 y2=0:=by simpa using aa
  refine⟨rl0,rl0,by unfold divE;rw[if_pos h0];rfl,?_⟩
  unfold divO
  rw[if_pos h0];exact⟨rfl,rfl⟩
 refine zzr (zzo ?_);refine zzd (zzy [0,0,0,4,14,30,0,64,254,510,1023,2047,4095] [(0,[]),(2,[]),(3,[]),(6,[]),(7,[]),(1,[]),(4,[]),(5,[]),(8,[]),(9,[]),(10,[]),(11,[]),(12,[])] xj xj (zzh 10 (.v (.agg #[.bool a1.s,a1.m.v,a1.d.v,.bool a2.s,a2.m.v,a2.d.v])) ty45 zze (zza 12 (.adr 3 0) (zzh 13 (.v (b1.v)) ty35 zze (zza 16 (.adr 3 3) (zzh 17 (.v (b2.v)) ty35 zze (zzg 11 14 _ fun _ _ aj ax=>qym (k_rqOf ax (z:=1) xq xq) ?_)))))));rintro _ u21 ak ⟨r19,rfl,az⟩;refine zzg 14 64 _ fun _ _ af ar=>qym (k_rqOver ar (az.ext af).raw (hb1.ext xe) xq xq) ?_;rintro _ u27 an ⟨r25,rfl,ay⟩;refine zzg 15 14 _ fun _ _ ag av=>qym (k_rqOf av (z:=1) xq xq) ?_;rintro _ u33 ah ⟨r31,rfl,au⟩;refine zzg 18 64 _ fun _ _ ac aA=>qym (k_rqOver aA (au.ext ac).raw (hb2.ext xe) xq xq) ?_;rintro _ u39 ao ⟨r37,rfl,aw⟩;refine zzg 19 37 _ fun _ _ am aD=>qym (k_r4Make aD (ay.ext xe).raw (aw.ext am).raw xq) ?_;rintro _ u47 ap ⟨r43,r45,rfl,aG,aF⟩;refine zzg 20 60 _ fun _ _ ai aB=>qym (k_r4Mul aB (ha1.ext xe) (ha2.ext xe) (aG.ext ai).raw (aF.ext ai).raw xq xq) ?_;rintro _ u55 g56 ⟨ad,ae,rfl,aI,aE⟩;refine zzi ⟨45,ad.cs++ae.cs⟩ ty45 ?_;refine zza 5 (zI 0) (zzb (zzn (ret0 [.agg #[.bool ad.s,ad.m.v,ad.d.v,.bool ae.s,ae.m.v,ae.d.v],.int .i64 0] ⟨zzq ty45 zze,zzp,trivial⟩ fun u58 aq=>?_)));have h0:¬sgI y1 y2=0:=by simpa using aa
 refine⟨ad,ae,by unfold divE;rw[if_neg h0];rfl,?_⟩
 unfold divO
 rw[if_neg h0];have o9:=over4 x1 x2 (((1:Int):Rat)/y1) (((1:Int):Rat)/y2)
 simp only[mul_over] at o9
 refine⟨RatN.more (K:=(K+(2+L+2)+1)) ?_ xq,RatN.more (K:=(K+(2+L+2)+1)) ?_ xq⟩
 ·rw[←o9.1];exact(aI.ext aq)
 rw[←o9.2];exact(aE.ext aq)
theorem k_ivDivO{u w:World}{a1 a2 b1 b2:RL}{x1 x2 y1 y2:Rat}{K L:Nat}(d:Dat u w)(ha1:RatV u a1 x1 K)(ha2:RatV u a2 x2 K)(hb1:RatV u b1 y1 L)(hb2:RatV u b2 y2 L)(hK:K≤4000000)(hL:L≤4000000):qyc 17 #[IV a1 a2,IV b1 b2] w (Post u w fun v u'=>∃p q:RL,v=.tuple #[IV p q,.int .i64 (divE y1 y2)]∧OptI u' p q (divO x1 x2 y1 y2) (K+L+20)):=
 qym (k_ivDiv d ha1 ha2 hb1 hb2 xq xq) fun v u' _ h=>by
  rcases h with ⟨h0,h1⟩|⟨h0,p,q,h1,h2,h3⟩
  ·exact⟨rl0,rl0,by unfold divE;rw[if_pos h0,h1];rfl,by unfold divO;rw[if_pos h0];exact⟨rfl,rfl⟩⟩
  exact⟨p,q,by unfold divE;rw[if_neg h0,h1],by unfold divO;rw[if_neg h0];exact⟨h2.more xq,h3.more xq⟩⟩
theorem k_ivRoundG{u w:World}{a1 a2:RL}{x1 x2:Rat}{K:Nat}{k:Nat}(hk:k≤256)(d:Dat u w)(ha1:RatV u a1 x1 K)(ha2:RatV u a2 x2 K)(hK:K≤100000):qyc 148 #[IV a1 a2,.int .i64 (k:Int)] w (Post u w fun v u'=>∃p q:RL,v=.tuple #[IV p q,.int .i64 (rndE (k:Int))]∧OptI u' p q (rndO x1 x2 (k:Int)) (K+70)):=by
 refine zzl Tryz.func148 rfl Tryz.ntmps148 Tryz.results148 d ?_;refine sq9 (zzj 2 ⟨45,a1.cs++a2.cs⟩ (zzj 4 ⟨45,zw6⟩ (zza 5 (zI 0) (zzb (zzd (sq9 (zza 12 (zI k) (zza 13 (zB (decide ((k:Int)<0))) (zqB 14 (show(decide ((k:Int)<0))=false from decide_eq_false xq) (zza 15 (zI k) ?_ (hw:=w1 2 false 14)))))))))));refine zza 16 (zB (decide ((256:Int)<(k:Int)))) ?_ (hw:=w1 2 false 14);refine zza 17 (zB (decide ((256:Int)<(k:Int)))) (zzb (zzt (b:=decide ((256:Int)<(k:Int))) xj (fun hb=>?_) (fun hb=>?_)))
 ·exact absurd hb (by rw[show(decide ((256:Int)<(k:Int)))=false from decide_eq_false xq];decide)
 clear hb;refine zzr (zzo ?_);refine sq9 (zzh 20 (.v (.agg #[.bool a1.s,a1.m.v,a1.d.v,.bool a2.s,a2.m.v,a2.d.v])) ty45 zze (zzg 21 75 _ fun _ _ ag ap=>qym (k_ends ap (ha1.ext ag) (ha2.ext ag) xq) ?_));rintro _ u17 g18 ⟨ac,ad,rfl,am,ai⟩;refine zza 19 (.v (.tuple #[ac.v,ad.v])) (zza 22 (.v (ac.v)) (zza 23 (.v (ad.v)) (zzj 6 ⟨35,zw3⟩ (zzj 7 ⟨35,zw3⟩ (zzi ⟨35,ac.cs⟩ ty35 ?_)))));refine zzi ⟨35,ad.cs⟩ ty35 ?_;refine zzb (sq9 (zzh 25 (.v (ac.v)) ty35 zze (zza 26 (zI k) (zzg 27 187 _ fun _ _ ah aj=>qym (k_downG (k:=k) xq aj (am.ext ah) xq) ?_))));rintro _ u23 an ⟨ab,rfl,ak⟩;refine zza 24 (.v (.tuple #[ab.v,.int .i64 0])) (zza 28 (.v (ab.v)) (zza 29 (zI 0) (zzj 8 ⟨35,zw3⟩ (zzi ⟨35,ab.cs⟩ ty35 ?_))));refine zza 9 (zI 0) (zzb (sq9 (zzh 31 (.v (ad.v)) ty35 zze (zza 32 (zI k) (zzg 33 188 _ fun _ _ ae aq=>qym (k_upG (k:=k) xq aq (ai.ext xe) xq) ?_)))));rintro _ u29 ao ⟨aa,rfl,al⟩;refine zza 30 (.v (.tuple #[aa.v,.int .i64 0])) (zza 34 (.v (aa.v)) (zza 35 (zI 0) (zzj 10 ⟨35,zw3⟩ (zzi ⟨35,aa.cs⟩ ty35 ?_))));refine zza 11 (zI 0) (zzc 39 [(4,.adr 4 0),(8,.adr 8 0),(10,.adr 10 0)] [(4,⟨45,zw6⟩),(8,⟨35,ab.cs⟩),(10,⟨35,aa.cs⟩)] (sq9 (zzh 36 (.v (ab.v)) ty35 zze (zzh 37 (.v (aa.v)) ty35 zze (zza 38 (.v (.agg #[.bool ab.s,ab.m.v,ab.d.v,.bool aa.s,aa.m.v,aa.d.v])) (zzi ⟨45,ab.cs++aa.cs⟩ ty45 ?_))))));refine zza 5 (zI 0) (zzb (zzn (ret0 [.agg #[.bool ab.s,ab.m.v,ab.d.v,.bool aa.s,aa.m.v,aa.d.v],.int .i64 0] ⟨zzq ty45 zze,zzp,trivial⟩ fun u32 af=>?_)));have h9:¬((k:Int)<0∨256<(k:Int)):=by omega
 refine⟨ab,aa,by unfold rndE;rw[if_neg h9];rfl,?_⟩
 unfold rndO
 rw[if_neg h9,Int.toNat_natCast];exact⟨RatN.more (K:=(K+20)) (ak.ext xe) xq,RatN.more (K:=(K+20)) (al.ext af) xq⟩
theorem k_r4RoundG{u w:World}{a1 a2:RL}{x1 x2:Rat}{K:Nat}{k:Nat}(hk:k≤256)(d:Dat u w)(ha1:RatV u a1 x1 K)(ha2:RatV u a2 x2 K)(hK:K≤100000):qyc 121 #[IV a1 a2,.int .i64 (k:Int)] w (Post u w fun v u'=>∃p q:RL,v=.tuple #[IV p q,.int .i64 (rndE (k:Int))]∧OptI u' p q (rndO x1 x2 (k:Int)) (K+70)):=by
 refine zzl Tryz.func121 rfl Tryz.ntmps121 Tryz.results121 d ?_;refine sq9 (zzj 2 ⟨45,a1.cs++a2.cs⟩ (zzj 4 ⟨45,zw6⟩ (zza 5 (zI 0) (zzb (sq9 (zzh 10 (.v (.agg #[.bool a1.s,a1.m.v,a1.d.v,.bool a2.s,a2.m.v,a2.d.v])) ty45 zze (zzg 11 83 _ fun _ _ ac ap=>qym (k_r4Trim ap (ha1.ext ac) (ha2.ext ac) xq) ?_)))))));rintro _ u16 g17 ⟨ah,ag,rfl,aj,al⟩;refine zzi ⟨45,ah.cs++ag.cs⟩ ty45 ?_;refine zzb (sq9 (zza 13 (.adr 2 0) (zzh 14 (.v (ah.v)) ty35 zze (zza 15 (zI k) (zzg 16 176 _ fun _ _ ad ao=>qym (k_rdownG (k:=k) xq ao (aj.ext ad).raw xq) ?_)))));rintro _ u22 ak ⟨ab,rfl,ai⟩;refine zza 12 (.v (.tuple #[ab.v,.int .i64 0])) (zza 17 (.v (ab.v)) (zza 18 (zI 0) (zzj 6 ⟨35,zw3⟩ (zzi ⟨35,ab.cs⟩ ty35 ?_))));refine zza 7 (zI 0) (zzb (zzd (sq9 (zza 19 (zI 0) (zza 20 (zB false) (zzb (zyr xj (zzr (zzo ?_)))))))));refine sq9 (zza 24 (.adr 2 3) (zzh 25 (.v (ag.v)) ty35 zze (zza 26 (zI k) (zzg 27 177 _ fun _ _ af an=>qym (k_rupG (k:=k) xq an (al.ext xe).raw xq) ?_))));rintro _ u28 aq ⟨aa,rfl,am⟩;refine zza 23 (.v (.tuple #[aa.v,.int .i64 0])) (zza 28 (.v (aa.v)) (zza 29 (zI 0) (zzj 8 ⟨35,zw3⟩ (zzi ⟨35,aa.cs⟩ ty35 ?_))));refine zza 9 (zI 0) (zzb (sq9 (zzh 30 (.v (ab.v)) ty35 zze (zzh 31 (.v (aa.v)) ty35 zze (zza 32 (.v (.agg #[.bool ab.s,ab.m.v,ab.d.v,.bool aa.s,aa.m.v,aa.d.v])) (zzi ⟨45,ab.cs++aa.cs⟩ ty45 ?_))))));refine zza 5 (zI 0) (zzc 33 [(4,.adr 4 0),(5,zI 0)] [(4,⟨45,ab.cs++aa.cs⟩)] (zzn (ret0 [.agg #[.bool ab.s,ab.m.v,ab.d.v,.bool aa.s,aa.m.v,aa.d.v],.int .i64 0] ⟨zzq ty45 zze,zzp,trivial⟩ fun u31 ae=>?_)));have h9:¬((k:Int)<0∨256<(k:Int)):=by omega
 refine⟨ab,aa,by unfold rndE;rw[if_neg h9];rfl,?_⟩
 unfold rndO
 rw[if_neg h9,Int.toNat_natCast];exact⟨RatN.more (K:=(K+60)) (ai.ext xe) xq,RatN.more (K:=(K+60)) (am.ext ae) xq⟩
@[reducible] def SP(a b:IL):Value:=.agg #[.bool a.s,.slice a.m.a a.m.n a.m.c,.bool b.s,.slice b.m.a b.m.n b.m.c]
namespace Nt
theorem pw_u2(k:Nat):pw k=u2 (32*k):=by
 induction k with
 | zero=>rfl
 | succ k ih=>
  have h:u2 (32*(k+1))=u2 (32*k)*u2 32:=by rw[←u2_add];rfl
  have e:u2 32=4294967296:=by decide +kernel
  show 4294967296*pw k=_;rw[ih,h,e,Int.mul_comm]
theorem dl_u2{z:Int}{L b:Nat}(h0:-(u2 b)≤z)(h1:z≤u2 b)(h:b<32*L):dl z.natAbs≤L:=by
 refine dl_le ?_;rw[pw_u2];have h2:=u2_mono (a:=b+1) (b:=32*L) xq;have h3:u2 (b+1)=u2 b*2:=u2_add b 1;have h4:=u2_pos b
 omega
theorem big{w:Nat}(hw:w≤800):8*u2 w+1152921504606846976≤u2 1000:=by
 have h1:=u2_mono hw;have h2:8*u2 800+1152921504606846976≤u2 1000:=by decide +kernel
 omega
theorem cmp_le(x y:Int):decide (cmpS x y≤0)=decide (x≤y):=by
 rw[decide_eq_decide]
 rcases cmp_range x y with ⟨e,h⟩|⟨e,h⟩|⟨e,h⟩<;>rw[e]<;>omega
theorem cmp_ne(x y:Int):(cmpS x y != 0)=decide (x≠y):=by
 rcases cmp_range x y with ⟨e,h⟩|⟨e,h⟩|⟨e,h⟩<;>rw[e]<;>simp<;>omega
theorem csW_le{w:Nat}(hw:w≤800):csW w*((w:Int)+4)+2≤1000000000∧0≤csW w*((w:Int)+2)∧csW w*((w:Int)+2)≤1000000000:=by
 have h0:0≤csW w:=by unfold csW;omega
 have h1:csW w≤411211:=by unfold csW;omega
 have h2:=Int.mul_le_mul h1 (show(w:Int)+4≤804 by omega) xq xw;have h3:=Int.mul_le_mul_of_nonneg_left (show(w:Int)+2≤(w:Int)+4 by omega) h0;have h4:=Int.mul_nonneg h0 (show 0≤(w:Int)+2 by omega)
 omega
theorem width_lt{lo hi:Int}{g w:Nat}(h:hi-lo≤1000000000)(hw:g+37≤w):hi-lo<u2 (w-g):=by
 have h1:=u2_mono (a:=37) (b:=w-g) xq;have h2:u2 37=137438953472:=by decide +kernel
 omega
theorem atR_bd{n w:Nat}{a b:Int}(h:AtR n w a b)(hn:0<n):-(5*(w:Int)+8)≤a∧a≤u2 w∧0≤b∧b≤u2 w+5*(w:Int)+8∧a≤b:=by
 obtain⟨⟨N,h1⟩,h2⟩:=h;have h3:=h1 (N+1) xq;have k1:=atT_b (n:=n) hn (m:=N+1) xq;have k2:=atT_le hn 0;have hU:=castI_pos (u2_pos w)
 have h4:alt (atT n) (N+1)≤1:=by
  refine Rat.le_trans k1.2 ?_;refine Rat.le_trans (div_le_self (atP_nn hn 0) (cast_one xq)) ?_;show 1/(n:Rat)≤1;exact div_le_self xw (cast_one hn)
 have h5:=h3.lo_le (c:=u2 w) (by
  have:=Rat.mul_le_mul_of_nonneg_right h4 (Rat.le_of_lt hU)
  rwa [Rat.one_mul] at this)
 have h6:=h3.nonneg (by grind) (u2_pos w);have:=h3.le
 omega
theorem coD_mul{j:Nat}(h:j≤1000):IntKind.i64.wrap (((2*j+2:Nat):Int)*((2*j+2-1:Nat):Int))=coD j∧coD j≤10000000:=by
 have h1:=Nat.mul_le_mul (show 2*j+2≤2002 by omega) (show 2*j+1≤2001 by omega)
 have e:((2*j+2:Nat):Int)*((2*j+2-1:Nat):Int)=coD j:=by
  unfold coD
  rw[Int.natCast_mul,show 2*j+2-1=2*j+1 by omega]
 have h2:coD j≤10000000:=by unfold coD;omega
 have h3:=coD_pos j;rw[e];exact⟨IntWalk.i64_in _ xq,h2⟩
theorem csR_bd{p q w:Nat}{a b:Int}(h:CsR p q w a b)(h0:0<q)(hp:2*p≤q)(hw:w≤800):-(3*u2 w)-1000000000≤a∧a≤3*u2 w∧-(3*u2 w)≤b∧b≤3*u2 w+1000000000∧a≤b∧b-a≤1000000000:=by
 have h9:=csW_le hw;obtain⟨⟨N,h1⟩,h2⟩:=h;have h3:=h1 (N+1) xq;have h4:=cs_bd (N:=N) (m:=N+1) h0 hp xq xq h3;have:=h3.le
 omega
theorem flo_of{X:Nat→Rat}{b w:Nat}{lo hi:Int}(h:∃N:Nat,∀m,N≤m→Enc (u2 w) lo hi (X m))(hb:b≤w)(he:(cmpS (lo/u2 (w-b)) (hi/u2 (w-b)) != 0)=false):lo/u2 (w-b)=flo X b:=by
 rw[cmp_ne] at he;have h1:lo/u2 (w-b)=hi/u2 (w-b):=by simpa using he
 exact(FlO.of h hb rfl h1.symm).flo.symm
theorem not_yet{X:Nat→Rat}{b g w:Nat}{lo hi:Int}(hg:Gap X b g)(h:∃N:Nat,∀m,N≤m→Enc (u2 w) lo hi (X m))(hw:hi-lo≤1000000000)(he:(cmpS (lo/u2 (w-b)) (hi/u2 (w-b)) != 0)=true):w<g+37:=by
 rcases Nat.lt_or_ge w (g+37) with k|k
 ·exact k
 have:=hg.decides h xq (width_lt hw k);rw[cmp_ne] at he;exact absurd this (by simpa using he)
theorem dnQ_int(z:Int)(b:Nat):dnQ (z:Rat) b=(z:Rat):=by
 unfold dnQ
 have e:(z:Rat)*((2^b:Nat):Rat)=((z*((2^b:Nat):Int):Int):Rat):=by rw[Rat.intCast_mul];rfl
 have f:flr ((z*((2^b:Nat):Int):Int):Rat)=z*((2^b:Nat):Int):=by
  unfold flr
  show(z*((2^b:Nat):Int))/((1:Nat):Int)=_;exact Int.ediv_one _
 have hp:(2^b:Nat)≠0:=by have:=Nat.pow_pos (n:=b) (show 0<2 by decide);omega
 rw[e,f,Rat.mkRat_eq_div,Rat.intCast_mul];show(z:Rat)*((2^b:Nat):Rat)/((2^b:Nat):Rat)=_
 have:((2^b:Nat):Rat)≠0:=by
  have:=cast_pos (Nat.pow_pos (n:=b) (show 0<2 by decide))
  grind
 generalize ((2^b:Nat):Rat)=x at *
 grind
theorem rnd_pt{q:Rat}{k:Nat}(hk:k≤256):rndO (lo q q) (hi q q) (k:Int)=some (dnQ q k,-dnQ (-q) k):=by
 unfold rndO
 have e:=lo_of_le (Rat.le_refl (a:=q));rw[if_neg (show ¬((k:Int)<0∨256<(k:Int)) by omega),e.1,e.2,e.1,e.2,Int.toNat_natCast]
theorem cosA_0{r q b:Nat}(h:r=0):cosA r q b=(dnQ ((1:Int):Rat) b,-dnQ (-((1:Int):Rat)) b):=by
 have e:-((1:Int):Rat)=((-1:Int):Rat):=rfl
 unfold cosA
 rw[if_pos h,dnQ_int,e,dnQ_int];rfl
theorem cosA_h{r q b:Nat}(h:¬r=0)(h2:2*r=q):cosA r q b=(dnQ ((0:Int):Rat) b,-dnQ (-((0:Int):Rat)) b):=by
 have e:-((0:Int):Rat)=((0:Int):Rat):=rfl
 unfold cosA
 rw[if_neg h,if_pos h2,e,dnQ_int];rfl
theorem cosA_3{r q b:Nat}(h:¬r=0)(h2:¬2*r=q)(h3:3*r=q):cosA r q b=(dnQ (((1:Int):Rat)/((2:Int):Rat)) b,-dnQ (-(((1:Int):Rat)/((2:Int):Rat))) b):=by
 unfold cosA
 rw[if_neg h,if_neg h2,if_pos h3];rfl
theorem cosA_g{r q b:Nat}(h:¬r=0)(h2:¬2*r=q)(h3:¬3*r=q):cosA r q b=(gr b (flo (coN r q) b),gr b (flo (coN r q) b+1)):=by
 unfold cosA
 rw[if_neg h,if_neg h2,if_neg h3]
theorem cosV_lo{p:Int}{q b r:Nat}(h:fold p q=r)(h2:¬q<2*r):cosV p q b=cosA r q b:=by
 unfold cosV cosF;rw[h,if_neg h2]
theorem cosV_hi{p:Int}{q b r:Nat}(h:fold p q=r)(h2:q<2*r):cosV p q b=(-(cosA (q-r) q b).2,-(cosA (q-r) q b).1):=by
 unfold cosV cosF;rw[h,if_pos h2]
theorem fold_id{r q:Nat}(h:r≤q):fold (r:Int) q=r:=by
 unfold fold
 dsimp only
 rcases Nat.eq_zero_or_pos q with h0|h0
 ·have:r=0:=by omega
  subst this;subst h0;rfl
 rw[Int.tmod_eq_of_lt xq xq,if_neg xq]
 omega
theorem tmod_bd(p:Int){q:Nat}(hq:0<q):-(2*(q:Int))<Int.tmod p (2*(q:Int))∧Int.tmod p (2*(q:Int))<2*(q:Int):=⟨Int.lt_tmod_of_pos p xq,Int.tmod_lt_of_pos p xq⟩
end Nt
theorem IntN.fit{u:World}{i:IL}{z:Int}{K L:Nat}(h:IntN u i z K)(k:dl z.natAbs≤L):IntN u i z L:=⟨h.1,h.2.1,h.2.2.1,k⟩
theorem IntN.lim{u:World}{i:IL}{z:Int}{K:Nat}(h:IntN u i z K)(h0:-(Nt.u2 1000)≤z)(h1:z≤Nt.u2 1000):IntN u i z 40:=h.fit (dl_u2 h0 h1 xw)
theorem IntN.lim2{u:World}{i:IL}{z:Int}{K:Nat}(h:IntN u i z K)(h0:-(Nt.u2 1000)≤z)(h1:z≤Nt.u2 1000):IntN u i z 42:=(h.lim h0 h1).more xw
end Go.Proofs.YtcpnfblekhgmgaaGreat
namespace Go.Proofs.YtcpnfblekhgmgaaGreat
open Nt
namespace Nt
def irt(n:Nat):Nat→Nat
 | 0=>0
 | N+1=>if(irt n N+1)^n≤N+1 then irt n N+1 else irt n N
theorem irt_ok{n:Nat}(hn:1≤n):∀N,irt n N^n≤N∧N<(irt n N+1)^n
 | 0=>⟨by show 0^n≤0;rw[Nat.zero_pow xq];exact Nat.le_refl _,Nat.pow_pos xq⟩
 | N+1=>by
  obtain⟨h1,h2⟩:=irt_ok hn N;have h3:=Nat.pow_lt_pow_left (show irt n N+1<irt n N+1+1 by omega) (show n≠0 by omega)
  unfold irt
  split
  ·exact⟨by assumption,by omega⟩
  exact⟨by omega,by omega⟩
theorem irt_uniq{n N r:Nat}(hn:1≤n)(h1:r^n≤N)(h2:N<(r+1)^n):r=irt n N:=by
 obtain⟨k1,k2⟩:=irt_ok hn N
 have a:r<irt n N+1:=by
  rcases Nat.lt_or_ge r (irt n N+1) with h|h
  ·exact h
  have:=Nat.pow_le_pow_left h n;omega
 have b:irt n N<r+1:=by
  rcases Nat.lt_or_ge (irt n N) (r+1) with h|h
  ·exact h
  have:=Nat.pow_le_pow_left h n;omega
 omega
theorem bern(r s:Int)(hr:0≤r)(hs:0≤s):∀n:Nat,r^n*((n+1:Nat)*s-n*r)≤s^(n+1):=by
 intro n
 induction n with
 | zero=>simp;rw[Int.pow_succ,Int.pow_zero,Int.one_mul];exact Int.le_refl _
 | succ n ih=>
  have h1:=Int.mul_le_mul_of_nonneg_left ih hs
  have h2:0≤(n+1:Int)*r^n*((s-r)*(s-r)):=by
   refine Int.mul_nonneg (Int.mul_nonneg xq (Int.pow_nonneg hr)) ?_
   rcases Int.le_total 0 (s-r) with h|h
   ·exact Int.mul_nonneg h h
   exact Int.mul_nonneg_of_nonpos_of_nonpos h h
  have e1:s^(n+1+1)=s*s^(n+1):=by rw[Int.pow_succ,Int.mul_comm]
  have e2:r^(n+1)=r^n*r:=Int.pow_succ ..;rw[e1,e2];refine Int.le_trans ?_ h1
  have e3:s*(r^n*(((n+1:Nat):Int)*s-(n:Int)*r))-r^n*r*(((n+1+1:Nat):Int)*s-((n+1:Nat):Int)*r)=(n+1:Int)*r^n*((s-r)*(s-r)):=by
   rw[Int.natCast_add,Int.natCast_add,Int.natCast_add];generalize r^n=R at *
   grind
  omega
theorem newton_ge{n N r s:Nat}(hr:0<r)(hs:s^(n+1)≤N):s≤(n*r+N/r^n)/(n+1):=by
 refine(Nat.le_div_iff_mul_le xq).2 ?_;have hb:=bern (r:Int) (s:Int) xq xq n
 rcases Nat.lt_or_ge (n*r) ((n+1)*s) with h|h
 ·have h1:(n+1)*s-n*r≤N/r^n:=by
   refine(Nat.le_div_iff_mul_le (Nat.pow_pos hr)).2 (Nat.le_trans ?_ hs)
   have h2:((((n+1)*s-n*r)*r^n:Nat):Int)≤((s^(n+1):Nat):Int):=by
    rw[Int.natCast_mul,Int.natCast_sub (Nat.le_of_lt h),Int.natCast_mul,Int.natCast_mul,Int.natCast_pow,Int.natCast_pow,Int.mul_comm];exact hb
   exact Int.ofNat_le.1 h2
  have e:=Nat.mul_comm s (n+1);rw[e];omega
 have e:=Nat.mul_comm s (n+1);rw[e];exact Nat.le_trans h (Nat.le_add_right _ _)
theorem newton_end{n N r:Nat}(h:r≤(n*r+N/r^n)/(n+1)):r^(n+1)≤N:=by
 have h1:=(Nat.le_div_iff_mul_le xq).1 h;rw[Nat.mul_add,Nat.mul_one,Nat.mul_comm r n] at h1;have h2:r≤N/r^n:=by omega
 rcases Nat.eq_zero_or_pos r with h0|h0
 ·rw[h0,Nat.zero_pow xq];omega
 have:=(Nat.le_div_iff_mul_le (Nat.pow_pos h0)).1 h2;rw[Nat.pow_succ,Nat.mul_comm];exact this
theorem newton_done{n N r:Nat}(hr:irt (n+1) N≤r)(h:r≤(n*r+N/r^n)/(n+1)):r=irt (n+1) N:=by
 refine irt_uniq xq (newton_end h) ?_;have:=(irt_ok (n:=n+1) xq N).2;exact Nat.lt_of_lt_of_le this (Nat.pow_le_pow_left xq _)
theorem newton_start{n N B:Nat}(hn:1≤n)(h:N<2^B):irt n N≤2^((B+n-1)/n):=by
 rcases Nat.lt_or_ge (2^((B+n-1)/n)) (irt n N) with h1|h1
 ·exfalso
  have h2:=(irt_ok hn N).1;have h3:=Nat.pow_le_pow_left (Nat.le_of_lt h1) n;rw[←Nat.pow_mul] at h3
  have h4:B≤(B+n-1)/n*n:=by
   have h5:=Nat.div_add_mod (B+n-1) n;have h6:=Nat.mod_lt (B+n-1) (show 0<n by omega);rw[Nat.mul_comm] at h5;omega
  have h7:=Nat.pow_le_pow_right (show 0<2 by decide) h4
  omega
 exact h1
theorem nw_ge{n N r:Nat}(hn:1≤n)(hr:0<r):irt n N≤(r*(n-1)+N/r^(n-1))/n:=by
 obtain⟨m,rfl⟩:∃m,n=m+1:=⟨n-1,by omega⟩
 have:=newton_ge (n:=m) hr (irt_ok (n:=m+1) xq N).1;rw[Nat.mul_comm r];exact this
theorem nw_done{n N r:Nat}(hn:1≤n)(h1:irt n N≤r)(h:r≤(r*(n-1)+N/r^(n-1))/n):r=irt n N:=by
 obtain⟨m,rfl⟩:∃m,n=m+1:=⟨n-1,by omega⟩
 rw[Nat.mul_comm r] at h;exact newton_done h1 h
theorem irt_pos{n N:Nat}(hn:1≤n)(h:1≤N):1≤irt n N:=by
 rcases Nat.eq_zero_or_pos (irt n N) with h0|h0
 ·have:=(irt_ok hn N).2;rw[h0,Nat.zero_add,Nat.one_pow] at this
  omega
 exact h0
theorem cmp_geN(a b:Nat):decide ((0:Int)≤cmpS (a:Int) (b:Int))=decide (b≤a):=by
 rw[decide_eq_decide]
 rcases cmp_range (a:Int) (b:Int) with ⟨e,h⟩|⟨e,h⟩|⟨e,h⟩<;>rw[e]<;>omega
def BitI(n N k out:Nat):Prop:=out^n≤N∧N<(out+2^k)^n
theorem BitI.start{n N B:Nat}(hn:1≤n)(h:N<2^B):BitI n N (B/n+1) 0:=by
 refine⟨by rw[Nat.zero_pow xq];omega,?_⟩;rw[Nat.zero_add,←Nat.pow_mul];refine Nat.lt_of_lt_of_le h (Nat.pow_le_pow_right xw ?_);have h5:=Nat.div_add_mod B n;have h6:=Nat.mod_lt B (show 0<n by omega);rw[Nat.add_mul,Nat.mul_comm];omega
theorem BitI.yes{n N k out:Nat}(h:BitI n N (k+1) out)(h1:(out+2^k)^n≤N):BitI n N k (out+2^k):=by
 refine⟨h1,?_⟩;have h2:=h.2;rw[Nat.pow_succ] at h2
 rwa [Nat.add_assoc,←Nat.mul_two]
theorem BitI.no{n N k out:Nat}(h:BitI n N (k+1) out)(h1:¬(out+2^k)^n≤N):BitI n N k out:=⟨h.1,by omega⟩
theorem BitI.done{n N out:Nat}(hn:1≤n)(h:BitI n N 0 out):out=irt n N:=irt_uniq hn h.1 h.2
end Nt
open Go.RowKit
set_option maxRecDepth 20000
namespace Nt
def rtD(q:Rat)(n b:Nat):Nat:=q.num.natAbs*2^(n*b)/q.den
def rtN(q:Rat)(n b:Nat):Nat:=irt n (rtD q n b)
def rtX(q:Rat)(n b:Nat):Prop:=q.num.natAbs*2^(n*b)%q.den=0∧rtN q n b^n=rtD q n b
instance(q:Rat)(n b:Nat):Decidable (rtX q n b):=by unfold rtX;infer_instance
def rtH(q:Rat)(n b:Nat):Int:=if rtX q n b then(rtN q n b:Int) else(rtN q n b:Int)+1
theorem sgQ_nn{q:Rat}(h:0≤q):¬sgQ q<0:=by
 intro h1;have h2:=(sgQ_lt q).symm;rw[decide_eq_true h1] at h2;exact absurd (qyt h2) (Rat.not_lt.2 h)
theorem flo_of2{X:Nat→Rat}{b w:Nat}{lo hi z:Int}(h:∃N:Nat,∀m,N≤m→Enc (u2 w) lo hi (X m))(hb:b≤w)(h1:lo/u2 (w-b)=z)(h2:hi/u2 (w-b)=z):flo X b=z:=(FlO.of h hb h1 h2).flo
theorem rat_pow_cast(a:Nat):∀n:Nat,((a^n:Nat):Rat)=(a:Rat)^n
 | 0=>by rw[Nat.pow_zero,Rat.pow_zero];rfl
 | n+1=>by rw[Nat.pow_succ,Rat.pow_succ,Rat.natCast_mul,rat_pow_cast a n]
theorem rat_mul_pow(a b:Rat):∀n:Nat,(a*b)^n=a^n*b^n
 | 0=>by rw[Rat.pow_zero,Rat.pow_zero,Rat.pow_zero,Rat.mul_one]
 | n+1=>by rw[Rat.pow_succ,Rat.pow_succ,Rat.pow_succ,rat_mul_pow a b n];grind
theorem gr_pow(k z n:Nat):gr k (z:Int)^n*((2^(n*k):Nat):Rat)=((z^n:Nat):Rat):=by
 have h:=gr_mul k (z:Int);have e:(u2 k:Rat)=((2^k:Nat):Rat):=rfl;rw[e] at h;rw[show n*k=k*n from Nat.mul_comm ..,Nat.pow_mul,rat_pow_cast,rat_pow_cast z,←rat_mul_pow,h];rfl
theorem q_den{q:Rat}(h:0≤q):q*(q.den:Rat)=(q.num.natAbs:Rat):=by
 have h1:q*(q.den:Rat)=(q.num:Rat):=by
  have e:q=(q.num:Rat)/((q.den:Int):Rat):=by rw[mk_div];exact(Rat.mkRat_self q).symm
  have:=div_mul_c (x:=(q.num:Rat)) (cast_pos q.den_pos);have e2:(q.num:Rat)/(q.den:Rat)=q:=e.symm;rw[e2] at this;exact this
 have h2:0≤q.num:=Rat.num_nonneg.2 h;rw[h1];have:((q.num.natAbs:Nat):Int)=q.num:=by omega
 have e:((q.num.natAbs:Nat):Rat)=(((q.num.natAbs:Nat):Int):Rat):=rfl;rw[e,this]
theorem rt_tight{q:Rat}{n k:Nat}(hq:0≤q)(hn:1≤n):gr k (rtN q n k:Int)^n≤q∧q≤gr k (rtH q n k)^n∧(gr k (rtN q n k:Int)^n=q↔rtX q n k):=by
 have hd:=q.den_pos;have hdr:=cast_pos hd;have hp:=cast_pos (Nat.pow_pos (n:=n*k) (show 0<2 by decide));obtain⟨a1,a2⟩:=irt_ok hn (rtD q n k);have b1:=Rat.natCast_le_natCast.2 ((Nat.le_div_iff_mul_le hd).1 a1);have b2:=Rat.natCast_lt_natCast.2 ((Nat.div_lt_iff_lt_mul hd).1 a2);rw[Rat.natCast_mul,Rat.natCast_mul,←q_den hq] at b1 b2;have g1:=gr_pow k (rtN q n k) n;have g2:=gr_pow k (rtN q n k+1) n
 have e1:gr k (rtN q n k:Int)^n≤q:=by
  refine Rat.le_of_mul_le_mul_right (c:=((2^(n*k):Nat):Rat)) (Rat.le_of_mul_le_mul_right (c:=(q.den:Rat)) ?_ hdr) hp;rw[g1];have:q*((2^(n*k):Nat):Rat)*(q.den:Rat)=q*(q.den:Rat)*((2^(n*k):Nat):Rat):=by grind
  rw[this];exact b1
 have e2:q≤gr k ((rtN q n k+1:Nat):Int)^n:=by
  refine Rat.le_of_mul_le_mul_right (c:=((2^(n*k):Nat):Rat)) (Rat.le_of_mul_le_mul_right (c:=(q.den:Rat)) ?_ hdr) hp;rw[g2];have:q*((2^(n*k):Nat):Rat)*(q.den:Rat)=q*(q.den:Rat)*((2^(n*k):Nat):Rat):=by grind
  rw[this];exact Rat.le_of_lt b2
 have hx:gr k (rtN q n k:Int)^n=q↔rtX q n k:=by
  have key:gr k (rtN q n k:Int)^n=q↔((rtN q n k^n*q.den:Nat):Rat)=((q.num.natAbs*2^(n*k):Nat):Rat):=by
   rw[Rat.natCast_mul,Rat.natCast_mul,←g1,←q_den hq];have hd':(q.den:Rat)≠0:=by grind
   have hp':((2^(n*k):Nat):Rat)≠0:=by grind
   generalize gr k (rtN q n k:Int)^n=y at *;generalize ((2^(n*k):Nat):Rat)=P at *;generalize (q.den:Rat)=D at *
   constructor
   ·intro h;rw[h];grind
   intro h;have:(y-q)*(P*D)=0:=by grind
   rcases Rat.mul_eq_zero.1 this with h9|h9
   ·grind
   rcases Rat.mul_eq_zero.1 h9 with h8|h8
   ·exact absurd h8 hp'
   exact absurd h8 hd'
  rw[key,Rat.natCast_inj]
  unfold rtX
  have hm:=Nat.div_add_mod (q.num.natAbs*2^(n*k)) q.den;have eD:rtD q n k=q.num.natAbs*2^(n*k)/q.den:=rfl;rw[←eD] at hm
  constructor
  ·intro h;rw[←h];refine⟨Nat.mul_mod_left _ _,?_⟩;rw[eD,←h,Nat.mul_div_cancel _ hd]
  rintro ⟨h1,h2⟩;rw[h1] at hm;rw[h2,Nat.mul_comm];exact hm
 refine⟨e1,?_,hx⟩
 unfold rtH
 by_cases h:rtX q n k
 ·rw[if_pos h,hx.2 h];exact Rat.le_refl
 rw[if_neg h];exact e2
end Nt
section
variable {L:List (List Int)} {p l:List Int} {i n c b k:Nat} {u u':World} {x:Sl} {cs:List Value}
theorem rows_nil:Rows k []:=fun q hq=>by cases hq
theorem ir_cell4(h:IrV 4 u x L)(hi:i<L.length):∃b o,x.a=some ⟨b,o,none⟩∧∀j,j<4→u.cell? ⟨b,o+i*4+j,none⟩=some (.int .i64 (gi L i j)):=by
 obtain⟨b,o,h1,h2,h3⟩:=ir_at h hi;refine⟨b,o,h1,fun j hj=>?_⟩;rw[h3 j (by rw[zwi,h.rows.get hi];exact hj),ics_at (by rw[h.rows.get hi];exact hj)]
 rfl
end
namespace Nt
noncomputable section
def rSH(p q:Nat):Rat×Rat:=cosV (((2*q:Nat):Int)-2*(p:Int)) (2*(2*q)) 64
def rCH(p q:Nat):Rat×Rat:=cosV (p:Int) (2*q) 64
def rSI(p q:Nat):Rat×Rat:=cosV (((q:Nat):Int)-2*(p:Int)) (2*q) 64
def rTA(p q:Nat):Rat×Rat:=(divO (rSH p q).1 (rSH p q).2 (rCH p q).1 (rCH p q).2).getD (0,0)
def roT(p q k:Nat):Int:=coZ (rTA p q).1 (rTA p q).2 k
def roS(p q k:Nat):Int:=coZ (rSI p q).1 (rSI p q).2 k
structure RotOK(p q k:Nat):Prop where
 g2:GapQ (2*q) 64
 hs:sgI (rCH p q).1 (rCH p q).2≠0
 t0:-2097152≤roT p q k
 t1:roT p q k≤2097152
 s0:-2097152≤roS p q k
 s1:roS p q k≤2097152
def roL(i j p q k:Nat):List (List Int):=[[(i:Int),(j:Int),roT p q k,(k:Int)],[(j:Int),(i:Int),-roS p q k,(k:Int)],[(i:Int),(j:Int),roT p q k,(k:Int)],[(j:Int),(j:Int),0,-2]]
theorem RotOK.div{p q k:Nat}(h:RotOK p q k):divE (rCH p q).1 (rCH p q).2=0∧divO (rSH p q).1 (rSH p q).2 (rCH p q).1 (rCH p q).2=some ((rTA p q).1,(rTA p q).2):=by
 constructor
 ·exact if_neg h.hs
 unfold rTA
 have:divO (rSH p q).1 (rSH p q).2 (rCH p q).1 (rCH p q).2=_:=if_neg h.hs;rw[this];rfl
theorem flo_616:flo (coN 6 16) 64=xLo (cs8 6 16)/u2 (128-64):=flo_of2 (w:=128) (cs8_ok xw xw) xw rfl (by decide +kernel)
theorem flo_18:flo (coN 1 8) 64=xLo (cs8 1 8)/u2 (128-64):=flo_of2 (w:=128) (cs8_ok xw xw) xw rfl (by decide +kernel)
theorem flo_28:flo (coN 2 8) 64=xLo (cs8 2 8)/u2 (128-64):=flo_of2 (w:=128) (cs8_ok xw xw) xw rfl (by decide +kernel)
theorem rSH_14:rSH 1 4=(gr 64 (xLo (cs8 6 16)/u2 (128-64)),gr 64 (xLo (cs8 6 16)/u2 (128-64)+1)):=by
 have h:fold 6 16=6:=by decide +kernel
 show cosV 6 16 64=_;rw[cosV_lo h xw,cosA_g xw xw xw,flo_616]
theorem rCH_14:rCH 1 4=(gr 64 (xLo (cs8 1 8)/u2 (128-64)),gr 64 (xLo (cs8 1 8)/u2 (128-64)+1)):=by
 have h:fold 1 8=1:=by decide +kernel
 show cosV 1 8 64=_;rw[cosV_lo h xw,cosA_g xw xw xw,flo_18]
theorem rSI_14:rSI 1 4=(gr 64 (xLo (cs8 2 8)/u2 (128-64)),gr 64 (xLo (cs8 2 8)/u2 (128-64)+1)):=by
 have h:fold 2 8=2:=by decide +kernel
 show cosV 2 8 64=_;rw[cosV_lo h xw,cosA_g xw xw xw,flo_28]
theorem roT_14:roT 1 4 4=7:=by unfold roT rTA;rw[rSH_14,rCH_14];decide +kernel
theorem roS_14:roS 1 4 4=11:=by unfold roS;rw[rSI_14];decide +kernel
theorem rotOK_14:RotOK 1 4 4:=by
 refine⟨gapQ_16 xw xw,?_,?_,?_,?_,?_⟩
 ·rw[rCH_14];decide +kernel
 ·rw[roT_14];decide
 ·rw[roT_14];decide
 ·rw[roS_14];decide
 rw[roS_14];decide
end
end Nt
end Go.Proofs.YtcpnfblekhgmgaaGreat
namespace Go.Proofs.YtcpnfblekhgmgaaGreat
open Nt
open Go.RowKit
theorem k_intDivI{u w:World}{i1 i2:IL}{z D:Int}{K L:Nat}(d:Dat u w)(h1:IntV u i1 z K)(h2:IntN u i2 D L)(hD:0<D)(hK:K≤100000000)(hL:L≤100000000):qyc 150 #[i1.v,i2.v] w (Post u w fun v u'=>∃i j:IL,v=.tuple #[i.v,j.v,.int .i64 0]∧IntN u' i (z/D) (K+1)∧IntN u' j (z%D) L):=by
 obtain⟨s,y⟩:=i2;have hs:s=false:=by have h3:=h2.1;rw[decide_eq_false xq] at h3;exact h3
 subst hs;have hd:((D.natAbs:Nat):Int)=D:=by omega
 have:=k_intDivP d h1 (y:=y) (M:=D.natAbs) h2.2.raw xq hK hL;rw[hd] at this;exact this
theorem k_intSub{u w:World}{i1:IL}{zN:Int}{K:Nat}{i2:IL}{zM:Int}{L:Nat}(d:Dat u w)(hi1:IntV u i1 zN K)(hi2:IntV u i2 zM L)(hK:K≤400000000)(hL:L≤400000000):qyc 191 #[i1.v,i2.v] w (Post u w fun v u'=>∃i:IL,v=i.v∧IntN u' i (zN-zM) (max K L+1)):=by
 obtain⟨N,hN,hzN⟩:=hi1;obtain⟨M,hM,hzM⟩:=hi2;refine zzl Tryz.func191 rfl Tryz.ntmps191 Tryz.results191 d ?_;refine sq9 (zzj 2 ⟨33,i1.cs⟩ (zzj 3 ⟨33,i2.cs⟩ (zzj 4 ⟨33,[.bool false,qyn]⟩ (zzb (sq9 (zzh 5 (.v (i1.v)) ty33 zze (zza 6 (.adr 3 0) (zzh 7 (zB i2.s) ty4 zzk (zza 8 (zB (!i2.s)) (zza 9 (.adr 3 1) (zzh 10 (.v (i2.m.v)) ty31 zzk ?_)))))))))));refine zza 11 (.v (.agg #[.bool (!i2.s),i2.m.v])) (zzg 12 112 _ fun _ _ ab ad=>qym (k_intAdd ad (IntV.same (s:=i1.s) (hN.ext ab)) (IntV.same (s := !i2.s) (hM.ext ab)) xq xq) ?_);rintro _ u14 g15 ⟨aa,rfl,ae⟩;refine zzi ⟨33,aa.cs⟩ ty33 ?_;refine zzb (zzn (ret0 [aa.v] ⟨zzq ty33 zze,trivial⟩ fun u17 ac=>?_));refine⟨aa,rfl,IntN.more (K:=(max K L+1)) ?_ xq⟩;have e9:zN-zM=Nt.sg i1.s N+Nt.sg (!i2.s) M:=by rw[hzN,hzM];unfold Nt.sg;cases i1.s<;>cases i2.s<;>simp<;>omega
 rw[e9];exact(ae.ext ac)
theorem k_eUnit{u w:World}{k:Nat}(d:Dat u w)(hk:k≤65536):qyc 149 #[.int .i64 (k:Int)] w (Post u w fun v u'=>∃i:IL,v=SP i i∧IntN u' i (Nt.u2 k) (k/32+2)):=by
 refine zzl Tryz.func149 rfl Tryz.ntmps149 Tryz.results149 d ?_;refine sq9 (zzj 2 ⟨117,[.bool false,qyn,.bool false,qyn]⟩ (zzb (sq9 (zxw 4 ⟨77,[.int .u32 1]⟩ 1 (fun b11 u12 e13 ae=>?_)))));refine zza 5 (zI k) (zzg 6 115 _ fun _ _ ac ad=>qym (k_natShift (s:=k) ad ((one_data ae).ext ac).raw xq xq) ?_);rintro _ u18 g19 ⟨aa,rfl,af⟩;refine zza 7 (.v (.agg #[.bool false,aa.v])) (zzj 3 ⟨33,[.bool false,qyn]⟩ (zzi ⟨33,[.bool false,aa.v]⟩ ty33 ?_));refine zzb (sq9 (zzh 8 (.v (.agg #[.bool false,aa.v])) ty33 zze (zzh 9 (.v (.agg #[.bool false,aa.v])) ty33 zze (zza 10 (.v (.agg #[.bool false,aa.v,.bool false,aa.v])) (zzi ⟨117,[.bool false,aa.v,.bool false,aa.v]⟩ ty117 ?_)))));refine zzb (zzn (ret0 [.agg #[.bool false,aa.v,.bool false,aa.v]] ⟨zzq ty117 zze,trivial⟩ fun u21 ab=>?_));refine⟨(⟨false,aa⟩:IL),rfl,?_⟩;have h9:=nat_intN (af.ext ab);rw[Nat.one_mul] at h9;exact h9.more xq
theorem k_eAdd{u w:World}{i j:IL}{a b:Int}{K:Nat}{k l:IL}{e f:Int}{L:Nat}(d:Dat u w)(hi:IntN u i a K)(hj:IntN u j b K)(hk:IntN u k e L)(hl:IntN u l f L)(hK:K≤1000000)(hL:L≤1000000):qyc 157 #[SP i j,SP k l] w (Post u w fun v u'=>∃i j:IL,v=SP i j∧IntN u' i (a+e) (max K L+1)∧IntN u' j (b+f) (max K L+1)):=by
 refine zzl Tryz.func157 rfl Tryz.ntmps157 Tryz.results157 d ?_;refine sq9 (zzj 2 ⟨117,i.cs++j.cs⟩ (zzj 3 ⟨117,k.cs++l.cs⟩ (zzj 4 ⟨117,[.bool false,qyn,.bool false,qyn]⟩ (zzb (zzd (zzy [0,1,0,4,15,0,32,0,128,511,1023,2047] [(0,[]),(1,[]),(2,[]),(3,[]),(5,[]),(6,[]),(7,[]),(8,[]),(4,[]),(9,[]),(10,[]),(11,[])] xj xj (zza 5 (.adr 2 0) (zzh 6 (.v (i.v)) ty33 zze (zza 7 (.adr 3 0) (zzh 8 (.v (k.v)) ty33 zze (zza 10 (.adr 2 2) ?_)))))))))));refine zzh 11 (.v (j.v)) ty33 zze (zza 12 (.adr 3 2) (zzh 13 (.v (l.v)) ty33 zze (zzg 9 112 _ fun _ _ ac aj=>qym (k_intAdd aj (hi.ext ac).raw (hk.ext ac).raw xq xq) ?_)));rintro _ u14 ae ⟨ab,rfl,ak⟩;refine zzg 14 112 _ fun _ _ ad ah=>qym (k_intAdd ah (hj.ext xe).raw (hl.ext xe).raw xq xq) ?_;rintro _ u20 ai ⟨aa,rfl,ag⟩;refine zza 15 (.v (.agg #[.bool ab.s,ab.m.v,.bool aa.s,aa.m.v])) (zzi ⟨117,ab.cs++aa.cs⟩ ty117 ?_);refine zzb (zzn (ret0 [.agg #[.bool ab.s,ab.m.v,.bool aa.s,aa.m.v]] ⟨zzq ty117 zze,trivial⟩ fun u23 af=>?_));refine⟨ab,aa,rfl,IntN.more (K:=(max K L+1)) ?_ xq,IntN.more (K:=(max K L+1)) ?_ xq⟩
 ·exact(ak.ext xe)
 exact(ag.ext af)
theorem k_eSub{u w:World}{i j:IL}{a b:Int}{K:Nat}{k l:IL}{e f:Int}{L:Nat}(d:Dat u w)(hi:IntN u i a K)(hj:IntN u j b K)(hk:IntN u k e L)(hl:IntN u l f L)(hK:K≤1000000)(hL:L≤1000000):qyc 156 #[SP i j,SP k l] w (Post u w fun v u'=>∃i j:IL,v=SP i j∧IntN u' i (a-f) (max K L+1)∧IntN u' j (b-e) (max K L+1)):=by
 refine zzl Tryz.func156 rfl Tryz.ntmps156 Tryz.results156 d ?_;refine sq9 (zzj 2 ⟨117,i.cs++j.cs⟩ (zzj 3 ⟨117,k.cs++l.cs⟩ (zzj 4 ⟨117,[.bool false,qyn,.bool false,qyn]⟩ (zzb (zzd (zzy [0,1,0,4,15,0,32,0,128,511,1023,2047] [(0,[]),(1,[]),(2,[]),(3,[]),(5,[]),(6,[]),(7,[]),(8,[]),(4,[]),(9,[]),(10,[]),(11,[])] xj xj (zza 5 (.adr 2 0) (zzh 6 (.v (i.v)) ty33 zze (zza 7 (.adr 3 2) (zzh 8 (.v (l.v)) ty33 zze (zza 10 (.adr 2 2) ?_)))))))))));refine zzh 11 (.v (j.v)) ty33 zze (zza 12 (.adr 3 0) (zzh 13 (.v (k.v)) ty33 zze (zzg 9 191 _ fun _ _ ac aj=>qym (k_intSub aj (hi.ext ac).raw (hl.ext ac).raw xq xq) ?_)));rintro _ u14 ae ⟨ab,rfl,ak⟩;refine zzg 14 191 _ fun _ _ ad ah=>qym (k_intSub ah (hj.ext xe).raw (hk.ext xe).raw xq xq) ?_;rintro _ u20 ai ⟨aa,rfl,ag⟩;refine zza 15 (.v (.agg #[.bool ab.s,ab.m.v,.bool aa.s,aa.m.v])) (zzi ⟨117,ab.cs++aa.cs⟩ ty117 ?_);refine zzb (zzn (ret0 [.agg #[.bool ab.s,ab.m.v,.bool aa.s,aa.m.v]] ⟨zzq ty117 zze,trivial⟩ fun u23 af=>?_));refine⟨ab,aa,rfl,IntN.more (K:=(max K L+1)) ?_ xq,IntN.more (K:=(max K L+1)) ?_ xq⟩
 ·exact(ak.ext xe)
 exact(ag.ext af)
theorem k_eTimes{u w:World}{i j:IL}{a b:Int}{K:Nat}{n9:Nat}(d:Dat u w)(hi:IntN u i a K)(hj:IntN u j b K)(hK:K≤1000000)(hn:n9≤1000000000):qyc 153 #[SP i j,.int .i64 (n9:Int)] w (Post u w fun v u'=>∃i j:IL,v=SP i j∧IntN u' i (a*(n9:Int)) (K+2)∧IntN u' j (b*(n9:Int)) (K+2)):=by
 refine zzl Tryz.func153 rfl Tryz.ntmps153 Tryz.results153 d ?_;refine sq9 (zzj 2 ⟨117,i.cs++j.cs⟩ (zzj 4 ⟨117,[.bool false,qyn,.bool false,qyn]⟩ (zzb (zzd (zzy [0,1,0,4,15,0,32,0,159,511,1023,2047] [(0,[]),(1,[]),(2,[]),(5,[]),(6,[]),(7,[]),(3,[]),(4,[]),(8,[]),(9,[]),(10,[]),(11,[])] xj xj (zza 5 (.adr 2 0) (zzh 6 (.v (i.v)) ty33 zze (zza 7 (zI n9) (zza 10 (.adr 2 2) (zzh 11 (.v (j.v)) ty33 zze (zza 12 (zI n9) ?_)))))))))));refine zzg 8 74 _ fun _ _ af ar=>qym (k_intOf ar (z:=(n9:Int)) xq xq) ?_;rintro _ u14 ai ⟨i12,rfl,ak⟩;refine zzg 9 105 _ fun _ _ ad an=>qym (k_intMul an (hi.ext xe).raw (ak.ext ad).raw xq xq) ?_;rintro _ u20 ao ⟨aa,rfl,am⟩;refine zzg 13 74 _ fun _ _ ag ap=>qym (k_intOf ap (z:=(n9:Int)) xq xq) ?_;rintro _ u26 ah ⟨i24,rfl,al⟩;refine zzg 14 105 _ fun _ _ ac aj=>qym (k_intMul aj (hj.ext xe).raw (al.ext ac).raw xq xq) ?_;rintro _ u32 aq ⟨ab,rfl,au⟩;refine zza 15 (.v (.agg #[.bool aa.s,aa.m.v,.bool ab.s,ab.m.v])) (zzi ⟨117,aa.cs++ab.cs⟩ ty117 ?_);refine zzb (zzn (ret0 [.agg #[.bool aa.s,aa.m.v,.bool ab.s,ab.m.v]] ⟨zzq ty117 zze,trivial⟩ fun u35 ae=>?_));refine⟨aa,ab,rfl,IntN.more (K:=(K+2)) ?_ xq,IntN.more (K:=(K+2)) ?_ xq⟩
 ·exact(am.ext xe)
 exact(au.ext ae)
theorem k_eOver{u w:World}{i j:IL}{a b:Int}{K:Nat}{l:IL}{D:Int}{L:Nat}(d:Dat u w)(hi:IntN u i a K)(hj:IntN u j b K)(hl:IntN u l D L)(hD:0<D)(hK:K≤1000000)(hL:L≤1000000):qyc 154 #[SP i j,l.v] w (Post u w fun v u'=>∃i j:IL,v=SP i j∧IntN u' i (a/D) (K+3)∧IntN u' j (cdiv b D) (K+3)):=by
 refine zzl Tryz.func154 rfl Tryz.ntmps154 Tryz.results154 d ?_;refine sq9 (zzj 2 ⟨117,i.cs++j.cs⟩ (zzj 3 ⟨33,l.cs⟩ (zzj 4 ⟨117,[.bool false,qyn,.bool false,qyn]⟩ (zzb (sq9 (zza 12 (.adr 2 0) (zzh 13 (.v (i.v)) ty33 zze (zzh 14 (.v (l.v)) ty33 zze (zzg 15 150 _ fun _ _ af aE=>qym (k_intDivI aE (hi.ext af).raw (hl.ext af) hD xq xq) ?_)))))))));rintro _ u16 ao ⟨aa,aj,rfl,am,h15⟩;refine zza 11 (.v (.tuple #[aa.v,aj.v,.int .i64 0])) (zza 16 (.v (aa.v)) (zza 17 (.v (aj.v)) (zza 18 (zI 0) (zzj 5 ⟨33,[.bool false,qyn]⟩ (zzj 6 ⟨33,[.bool false,qyn]⟩ (zzi ⟨33,aa.cs⟩ ty33 ?_))))));refine zzi ⟨33,aj.cs⟩ ty33 ?_;refine zza 7 (zI 0) (zzb (sq9 (zza 20 (.adr 2 2) (zzh 21 (.v (j.v)) ty33 zze (zzh 22 (.v (l.v)) ty33 zze (zzg 23 150 _ fun _ _ ag aB=>qym (k_intDivI aB (hj.ext xe).raw (hl.ext xe) hD xq xq) ?_))))));rintro _ u24 ar ⟨ab,ah,rfl,al,aw⟩;refine zza 19 (.v (.tuple #[ab.v,ah.v,.int .i64 0])) (zza 24 (.v (ab.v)) (zza 25 (.v (ah.v)) (zza 26 (zI 0) (zzj 8 ⟨33,[.bool false,qyn]⟩ (zzj 9 ⟨33,[.bool false,qyn]⟩ (zzi ⟨33,ab.cs⟩ ty33 ?_))))));refine zzi ⟨33,ah.cs⟩ ty33 ?_;refine zza 10 (zI 0) (zzb (zzd (sq9 (zzh 27 (.v (ah.v)) ty33 zze (zzg 28 104 _ fun _ _ ae aA=>qym (k_intSign aA (aw.ext ae).raw) ?_)))));rintro _ u28 ai rfl;refine zza 29 (zB ((cmpS (b%D) 0) != 0)) (zzc 36 [(4,.adr 4 0),(5,.adr 5 0),(8,.adr 8 0),(29,zB ((cmpS (b%D) 0) != 0))] [(4,⟨117,[.bool false,qyn,.bool false,qyn]⟩),(5,⟨33,aa.cs⟩),(8,⟨33,ab.cs⟩)] (zzt (b:=(cmpS (b%D) 0) != 0) xj (fun ac=>?_) (fun ac=>?_)))
 ·refine zzy [0,0,3,7] [(0,[]),(1,[]),(2,[]),(3,[])] xj xj (zzh 30 (.v (ab.v)) ty33 zze (zzg 31 74 _ fun _ _ an ax=>qym (k_intOf ax (z:=1) xq xq) ?_));rintro _ u35 au ⟨i33,rfl,ay⟩;refine zzg 32 112 _ fun _ _ ak az=>qym (k_intAdd az (al.ext xe).raw (ay.ext ak).raw xq xq) ?_;rintro _ u41 aD ⟨ad,rfl,av⟩;refine zzi ⟨33,ad.cs⟩ ty33 ?_;refine zzb (sq9 (zzh 33 (.v (aa.v)) ty33 zze (zzh 34 (.v (ad.v)) ty33 zze (zza 35 (.v (.agg #[.bool aa.s,aa.m.v,.bool ad.s,ad.m.v])) (zzi ⟨117,aa.cs++ad.cs⟩ ty117 ?_)))));refine zzb (zzn (ret0 [.agg #[.bool aa.s,aa.m.v,.bool ad.s,ad.m.v]] ⟨zzq ty117 zze,trivial⟩ fun u44 ap=>?_));have h8:¬b%D=0:=by intro h7;rw[h7] at ac;exact absurd ac xw
  rw[cd_eq1 hD h8];refine⟨aa,ad,rfl,IntN.more (K:=(K+1)) ?_ xq,IntN.more (K:=(max (K+1) 2+1)) ?_ xq⟩
  ·exact(am.ext xe)
  exact(av.ext ap)
 refine zzr (zzo ?_);refine sq9 (zzh 33 (.v (aa.v)) ty33 zze (zzh 34 (.v (ab.v)) ty33 zze (zza 35 (.v (.agg #[.bool aa.s,aa.m.v,.bool ab.s,ab.m.v])) (zzi ⟨117,aa.cs++ab.cs⟩ ty117 ?_))));refine zzb (zzn (ret0 [.agg #[.bool aa.s,aa.m.v,.bool ab.s,ab.m.v]] ⟨zzq ty117 zze,trivial⟩ fun u46 aq=>?_));have h8:b%D=0:=by rw[cmp_ne] at ac;simpa using ac
 rw[cd_eq0 hD h8];refine⟨aa,ab,rfl,IntN.more (K:=(K+1)) ?_ xq,IntN.more (K:=(K+1)) ?_ xq⟩
 ·exact(am.ext xe)
 exact(al.ext xe)
theorem k_eProd{u w:World}{i j:IL}{a b:Int}{K:Nat}{k l:IL}{e f:Int}{L p:Nat}(d:Dat u w)(hi:IntN u i a K)(hj:IntN u j b K)(hk:IntN u k e L)(hl:IntN u l f L)(hK:K≤400000)(hL:L≤400000)(hp:p≤60000):qyc 155 #[SP i j,SP k l,.int .i64 (p:Int)] w (Post u w fun v u'=>∃i j:IL,v=SP i j∧IntN u' i (a*e/Nt.u2 p) (K+L+3)∧IntN u' j (cdiv (b*f) (Nt.u2 p)) (K+L+3)):=by
 refine zzl Tryz.func155 rfl Tryz.ntmps155 Tryz.results155 d ?_;refine sq9 (zzj 3 ⟨117,i.cs++j.cs⟩ (zzj 4 ⟨117,k.cs++l.cs⟩ (zzj 6 ⟨117,[.bool false,qyn,.bool false,qyn]⟩ (zzb (zzd (zzy [0,1,0,4,15,0,32,0,128,511,1023,0,3071,7167,16383,32767] [(0,[]),(1,[]),(2,[]),(3,[]),(5,[]),(6,[]),(7,[]),(8,[]),(11,[]),(4,[]),(9,[]),(10,[]),(12,[]),(13,[]),(14,[]),(15,[])] xj xj (zza 7 (.adr 3 0) (zzh 8 (.v (i.v)) ty33 zze (zza 9 (.adr 4 0) (zzh 10 (.v (k.v)) ty33 zze (zza 12 (.adr 3 2) ?_)))))))))));refine zzh 13 (.v (j.v)) ty33 zze (zza 14 (.adr 4 2) (zzh 15 (.v (l.v)) ty33 zze (zza 18 (zI p) (zzg 11 105 _ fun _ _ aa aw=>qym (k_intMul aw (hi.ext aa).raw (hk.ext aa).raw xq xq) ?_))));rintro _ u14 ai ⟨af,rfl,am⟩;refine zzg 16 105 _ fun _ _ ae aq=>qym (k_intMul aq (hj.ext xe).raw (hl.ext xe).raw xq xq) ?_;rintro _ u20 ar ⟨ak,rfl,ao⟩;refine zza 17 (.v (.agg #[.bool af.s,af.m.v,.bool ak.s,ak.m.v])) (zzg 19 149 _ fun _ _ ag av=>qym (k_eUnit (k:=p) av xq) ?_);rintro _ u26 ah ⟨au,rfl,an⟩;refine zza 20 (.v (au.v)) (zzg 21 154 _ fun _ _ ad al=>qym (k_eOver al (am.ext xe) (ao.ext xe) (an.ext ad) (u2_pos p) xq xq) ?_);rintro _ u34 g35 ⟨ac,ab,rfl,ax,ap⟩;refine zzi ⟨117,ac.cs++ab.cs⟩ ty117 ?_;refine zzb (zzn (ret0 [.agg #[.bool ac.s,ac.m.v,.bool ab.s,ab.m.v]] ⟨zzq ty117 zze,trivial⟩ fun u37 aj=>?_));refine⟨ac,ab,rfl,IntN.more (K:=((K+L)+3)) ?_ xq,IntN.more (K:=((K+L)+3)) ?_ xq⟩
 ·exact(ax.ext aj)
 exact(ap.ext aj)
theorem k_eWider{u w:World}{i j:IL}{a b:Int}{K:Nat}(d:Dat u w)(hi:IntN u i a K)(hj:IntN u j b K)(hK:K≤1000000):qyc 159 #[SP i j] w (Post u w fun v u'=>∃i j:IL,v=SP i j∧IntN u' i (a-1) (K+3)∧IntN u' j (b+1) (K+3)):=by
 refine zzl Tryz.func159 rfl Tryz.ntmps159 Tryz.results159 d ?_;refine sq9 (zzj 1 ⟨117,i.cs++j.cs⟩ (zzj 2 ⟨117,[.bool false,qyn,.bool false,qyn]⟩ (zzb (sq9 (zzg 4 74 _ fun _ _ ag ap=>qym (k_intOf ap (z:=1) xq xq) ?_)))));rintro _ u14 aj ⟨ad,rfl,ah⟩;refine zzj 3 ⟨33,[.bool false,qyn]⟩ (zzi ⟨33,ad.cs⟩ ty33 ?_);refine zzb (zzd (zzy [0,1,0,7,0,16,0,127,255,511] [(0,[]),(1,[]),(2,[]),(4,[]),(5,[]),(6,[]),(3,[]),(7,[]),(8,[]),(9,[])] xj xj (zza 5 (.adr 1 0) (zzh 6 (.v (i.v)) ty33 zze (zzh 7 (.v (ad.v)) ty33 zze (zza 9 (.adr 1 2) (zzh 10 (.v (j.v)) ty33 zze (zzh 11 (.v (ad.v)) ty33 zze (zzg 8 191 _ fun _ _ ac am=>qym (k_intSub am (hi.ext xe).raw (ah.ext ac).raw xq xq) ?_)))))))));rintro _ u20 ai ⟨ab,rfl,al⟩;refine zzg 12 112 _ fun _ _ ae an=>qym (k_intAdd an (hj.ext xe).raw (ah.ext xe).raw xq xq) ?_;rintro _ u26 ao ⟨aa,rfl,ak⟩;refine zza 13 (.v (.agg #[.bool ab.s,ab.m.v,.bool aa.s,aa.m.v])) (zzi ⟨117,ab.cs++aa.cs⟩ ty117 ?_);refine zzb (zzn (ret0 [.agg #[.bool ab.s,ab.m.v,.bool aa.s,aa.m.v]] ⟨zzq ty117 zze,trivial⟩ fun u29 af=>?_));refine⟨ab,aa,rfl,IntN.more (K:=(max K 2+1)) ?_ xq,IntN.more (K:=(max K 2+1)) ?_ xq⟩
 ·exact(al.ext xe)
 exact(ak.ext af)
theorem k_eTiny{u w:World}{i j:IL}{a b:Int}{K:Nat}(d:Dat u w)(hi:IntN u i a K)(hj:IntN u j b K)(hK:K≤1000000):qyc 158 #[SP i j] w (Post u w fun v u'=>v=.bool (decide (b≤1))):=by
 refine zzl Tryz.func158 rfl Tryz.ntmps158 Tryz.results158 d ?_;refine sq9 (zzj 1 ⟨117,i.cs++j.cs⟩ (zza 2 (zB false) (zzb (zzd (zzy [0,1,0,7,15,31] [(0,[]),(1,[]),(2,[]),(3,[]),(4,[]),(5,[])] xj xj (zza 3 (.adr 1 2) (zzh 4 (.v (j.v)) ty33 zze (zzg 5 74 _ fun _ _ ad ae=>qym (k_intOf ae (z:=1) xq xq) ?_))))))));rintro _ u14 ab ⟨i12,rfl,af⟩;refine zzg 6 140 _ fun _ _ aa ac=>qym (k_intCompare ac (hj.ext xe).raw (af.ext aa).raw) ?_;rintro _ u18 g19 rfl;refine zza 7 (zB (decide ((cmpS b 1)≤0))) (zza 2 (zB (decide ((cmpS b 1)≤0))) (zzb (zzn (ret0 [.bool (decide ((cmpS b 1)≤0))] ⟨zzp,trivial⟩ fun u21 e22=>?_))));show Value.bool _=Value.bool _;rw[cmp_le]
theorem k_arctan{u w:World}{n k:Nat}(d:Dat u w)(hn:2≤n)(hn2:n≤1000)(hk:k≤800):qyc 190 #[.int .i64 (n:Int),.int .i64 (k:Int)] w (Post u w fun v u'=>∃(i j:IL) (a b:Int),v=SP i j∧IntN u' i a 42∧IntN u' j b 42∧AtR n k a b):=by
 have hN2:4≤n*n:=Nat.mul_le_mul hn hn;have hN3:n*n≤1000000:=Nat.mul_le_mul hn2 hn2;have hnn:-9223372036854775808≤(n:Int)*(n:Int)∧(n:Int)*(n:Int)≤9223372036854775807:=by rw[←Int.natCast_mul];omega
 have hbig:=big hk;have hu2:=u2_pos k;refine zzl Tryz.func190 rfl Tryz.ntmps190 Tryz.results190 d ?_;refine sq9 (zzj 4 ⟨117,[.bool false,qyn,.bool false,qyn]⟩ (zzb (sq9 (zza 9 (zI k) (zzg 10 149 _ fun _ _ _ bt=>qym (k_eUnit (k:=k) bt xq) ?_)))));rintro _ u14 g15 ⟨i12,rfl,aU⟩;refine zza 11 (zI n) (zzg 12 74 _ fun _ _ a4 a8=>qym (k_intOf a8 (z:=(n:Int)) xq xq) ?_);rintro _ u20 a0 ⟨i18,rfl,bf⟩;refine zzg 13 154 _ fun _ _ aP a9=>qym (k_eOver a9 (aU.ext xe) (aU.ext xe) (bf.ext aP) xq xq xq) ?_;rintro _ bu g29 ⟨aA,aB,rfl,aS,a3⟩;refine zzj 5 ⟨117,[.bool false,qyn,.bool false,qyn]⟩ (zzi ⟨117,aA.cs++aB.cs⟩ ty117 ?_);refine zzb (sq9 (zzh 14 (.v (.agg #[.bool aA.s,aA.m.v,.bool aB.s,aB.m.v])) ty117 zze (zzj 6 ⟨117,[.bool false,qyn,.bool false,qyn]⟩ (zzi ⟨117,aA.cs++aB.cs⟩ ty117 ?_))));refine zzb (sq9 (zza 7 (zI 3) (zzb (zzs (zym (I:=fun aX S' u'=>∃(j:Nat) (x1:IL) (x2:IL) (y1:IL) (y2:IL) (a:Int) (b:Int) (cc:Int) (dd:Int),(aX=b.toNat)∧(AtI n k j a b cc dd)∧(S'=St.of 40 [(0,zI n),(4,.adr 4 0),(5,.adr 5 0),(6,.adr 6 0),(7,zI (2*j+3:Nat))] [(4,⟨117,[.bool false,qyn,.bool false,qyn]⟩),(5,⟨117,x1.cs++x2.cs⟩),(6,⟨117,y1.cs++y2.cs⟩)])∧(Ext bu u')∧(IntN u' x1 a 40)∧(IntN u' x2 b 40)∧(IntN u' y1 cc 40)∧(IntN u' y2 dd 40)) (fun m S u1 u2 e h=>by obtain⟨j,x1,x2,y1,y2,a,b,cc,dd,hm,p0,hS,hE,f0,f1,f2,f3⟩:=h;exact⟨j,x1,x2,y1,y2,a,b,cc,dd,hm,p0,hS,hE.trans e,f0.ext e,f1.ext e,f2.ext e,f3.ext e⟩) _ yq ⟨0,aA,aB,aA,aB,((Nt.u2 k)/(n:Int)),(cdiv (Nt.u2 k) (n:Int)),((Nt.u2 k)/(n:Int)),(cdiv (Nt.u2 k) (n:Int)),rfl,(AtI.start xq),rfl,(Ext.refl _),(IntN.lim aS (by have h8:=(AtI.start (n:=n) (w:=k) xq).bd xq;omega) (by have h8:=(AtI.start (n:=n) (w:=k) xq).bd xq;omega)),(IntN.lim a3 (by have h8:=(AtI.start (n:=n) (w:=k) xq).bd xq;have h9:=(AtI.start (n:=n) (w:=k) xq).p1;omega) (by have h8:=(AtI.start (n:=n) (w:=k) xq).bd xq;omega)),(IntN.lim aS (by have h8:=(AtI.start (n:=n) (w:=k) xq).bd xq;omega) (by have h8:=(AtI.start (n:=n) (w:=k) xq).bd xq;omega)),(IntN.lim a3 (by have h8:=(AtI.start (n:=n) (w:=k) xq).bd xq;have h9:=(AtI.start (n:=n) (w:=k) xq).p1;omega) (by have h8:=(AtI.start (n:=n) (w:=k) xq).bd xq;omega))⟩ ?_)))));rintro aX _ u31 ⟨j,x1,x2,y1,y2,a,b,cc,dd,bp,hI,rfl,aV,f0,f1,f2,f3⟩;have hjw:=hI.jw;refine zzd (zzs (zzd (zzy [0,0,0,6,14,31,63] [(0,[]),(1,[]),(2,[]),(3,[]),(4,[]),(5,[]),(6,[])] xj xj (zzh 17 (.v (.agg #[.bool x1.s,x1.m.v,.bool x2.s,x2.m.v])) ty117 zze (zza 18 (zI n) (zza 19 (zI n) (zyp 20 (x:=zI (IntKind.i64.wrap ((n:Int)*(n:Int)))) (zI (((n*n:Nat):Int))) (by rw[show(IntKind.i64.wrap ((n:Int)*(n:Int)))=((n*n:Nat):Int) from(by rw[IntWalk.i64_in _ hnn];rfl)]) (zzg 21 74 _ fun _ _ aq be=>qym (k_intOf be (z:=((n*n:Nat):Int)) xq xq) ?_))))))));rintro _ u35 ar ⟨i33,rfl,bj⟩;refine zzg 22 154 _ fun _ _ am bk=>qym (k_eOver bk (f0.ext xe) (f1.ext xe) (bj.ext am) xq xq xq) ?_;rintro _ u43 az ⟨ay,av,rfl,aR,aO⟩;refine zzi ⟨117,ay.cs++av.cs⟩ ty117 ?_
 refine zzb (zzd (zzy [0,0,2,7,0,31] [(0,[]),(1,[]),(4,[]),(2,[]),(3,[]),(5,[])] xj xj (zzh 23 (.v (.agg #[.bool ay.s,ay.m.v,.bool av.s,av.m.v])) ty117 zze (zza 24 (zI (2*j+3:Nat)) (zzj 8 ⟨117,[.bool false,qyn,.bool false,qyn]⟩ (zzg 25 74 _ fun _ _ ad bb=>qym (k_intOf bb (z:=((2*j+3:Nat):Int)) xq xq) ?_))))));rintro _ u49 ac ⟨i47,rfl,bc⟩;refine zzg 26 154 _ fun _ _ ab bs=>qym (k_eOver bs (aR.ext xe) (aO.ext xe) (bc.ext ab) xq xq xq) ?_;rintro _ u57 aj ⟨ag,af,rfl,aM,aJ⟩;refine zzi ⟨117,ag.cs++af.cs⟩ ty117 ?_;refine zzb (zzd (sq9 (zza 27 (zI (2*j+3:Nat)) (zza 28 (zI (Int.tmod ((2*j+3:Nat):Int) 4)) (zza 29 (zB ((Int.tmod ((2*j+3:Nat):Int) 4)==3)) (zzb (zzt (b:=(Int.tmod ((2*j+3:Nat):Int) 4)==3) xj (fun ax=>?_) (fun ax=>?_))))))))
 ·have ah:Int.tmod ((2*j+3:Nat):Int) 4=((2*j+3:Nat):Int)%4:=Int.tmod_eq_emod_of_nonneg xq;have aa :  j%2=0:=by have h9:=ax;rw[ah] at h9;simp at h9;omega
  refine zzf (zzh 30 (.v (.agg #[.bool y1.s,y1.m.v,.bool y2.s,y2.m.v])) ty117 zze (zzh 31 (.v (.agg #[.bool ag.s,ag.m.v,.bool af.s,af.m.v])) ty117 zze (zzg 32 156 _ fun _ _ ao br=>qym (k_eSub br (f2.ext xe) (f3.ext xe) (aM.ext ao) (aJ.ext ao) xq xq) ?_)));rintro _ u66 aI ⟨aD,i64,rfl,aY,a5⟩;refine zzi ⟨117,aD.cs++i64.cs⟩ ty117 ?_;refine zzc 40 [(0,zI n),(4,.adr 4 0),(5,.adr 5 0),(6,.adr 6 0),(7,zI (2*j+3:Nat)),(8,.adr 8 0)] [(4,⟨117,[.bool false,qyn,.bool false,qyn]⟩),(5,⟨117,ay.cs++av.cs⟩),(6,⟨117,aD.cs++i64.cs⟩),(8,⟨117,ag.cs++af.cs⟩)] (sq9 (zzh 36 (.v (.agg #[.bool ag.s,ag.m.v,.bool af.s,af.m.v])) ty117 zze (zzg 37 158 _ fun _ _ al bh=>qym (k_eTiny bh (aM.ext xe) (aJ.ext xe) xq) ?_)));rintro _ u70 aw rfl;refine zzb (zzt (b:=decide ((cdiv (cdiv b ((n*n:Nat):Int)) ((2*j+3:Nat):Int))≤1)) xj (fun ai=>?_) (fun ai=>?_))
  ·have qhb73:=qyt ai;refine sq9 (zzh 38 (.v (.agg #[.bool aD.s,aD.m.v,.bool i64.s,i64.m.v])) ty117 zze (zzg 39 159 _ fun _ _ aW bi=>qym (k_eWider bi (aY.ext xe) (a5.ext xe) xq) ?_));rintro _ u79 g80 ⟨aN,aK,rfl,bq,bo⟩;refine zzi ⟨117,aN.cs++aK.cs⟩ ty117 ?_;refine zzb (zzn (zyt (zzv (zys (zyt (ret0 [.agg #[.bool aN.s,aN.m.v,.bool aK.s,aK.m.v]] ⟨zzq ty117 zze,trivial⟩ fun u82 a2=>?_))))));have ho:=hI.out xq (qyt ai) (hI.sub xq aa) (by have h9:=hI.tw xq;omega);have hob:=atR_bd ho xq;exact⟨aN,aK,_,_,rfl,IntN.lim2 (bq.ext a2) xq xq,IntN.lim2 (bo.ext a2) xq xq,ho⟩
  have qhb73:=qyf ai;refine zzr (zzo ?_);refine zzf (zza 15 (zI (2*j+3:Nat)) (qwi 16 (((2*j+3:Nat):Int)+2) (((2*j+3)+2:Nat):Int) xk (zza 7 (zI (((2*j+3)+2:Nat):Int)) (zzw ?_))));have hgo:=hI.go xq (by have h9:=qyf ai;omega) (hI.sub xq aa) (by have h9:=hI.tw xq;omega);have hb:=hgo.1.bd xq;have hp0:=hgo.1.p0;have hp1:=hgo.1.p1;have hple:=hgo.1.p.le;have hpp:=hI.p1;refine⟨_,?_,_,by exact zzu _ _ _,j+1,ay,av,aD,i64,(a/((n*n:Nat):Int)),(cdiv b ((n*n:Nat):Int)),(cc-(cdiv (cdiv b ((n*n:Nat):Int)) ((2*j+3:Nat):Int))),(dd-((a/((n*n:Nat):Int))/((2*j+3:Nat):Int))),rfl,hgo.1,rfl,(aV.t (aq.t (ar.t (am.t (az.t (ad.t (ac.t (ab.t (aj.t (ao.t (aI.t (al.t aw.ext)))))))))))),(IntN.lim (aR.ext xe) xq xq),(IntN.lim (aO.ext xe) xq xq),(IntN.lim (aY.ext xe) xq xq),(IntN.lim (a5.ext xe) xq xq)⟩
  omega
 have ah:Int.tmod ((2*j+3:Nat):Int) 4=((2*j+3:Nat):Int)%4:=Int.tmod_eq_emod_of_nonneg xq;have aa:¬j%2=0:=by have h9:=ax;rw[ah] at h9;simp at h9;omega
 refine zzf (zzh 33 (.v (.agg #[.bool y1.s,y1.m.v,.bool y2.s,y2.m.v])) ty117 zze (zzh 34 (.v (.agg #[.bool ag.s,ag.m.v,.bool af.s,af.m.v])) ty117 zze (zzg 35 157 _ fun _ _ an a7=>qym (k_eAdd a7 (f2.ext xe) (f3.ext xe) (aM.ext an) (aJ.ext an) xq xq) ?_)));rintro _ u89 aH ⟨aF,aE,rfl,a1,aT⟩;refine zzi ⟨117,aF.cs++aE.cs⟩ ty117 ?_;refine zzc 40 [(0,zI n),(4,.adr 4 0),(5,.adr 5 0),(6,.adr 6 0),(7,zI (2*j+3:Nat)),(8,.adr 8 0)] [(4,⟨117,[.bool false,qyn,.bool false,qyn]⟩),(5,⟨117,ay.cs++av.cs⟩),(6,⟨117,aF.cs++aE.cs⟩),(8,⟨117,ag.cs++af.cs⟩)] (sq9 (zzh 36 (.v (.agg #[.bool ag.s,ag.m.v,.bool af.s,af.m.v])) ty117 zze (zzg 37 158 _ fun _ _ ap ba=>qym (k_eTiny ba (aM.ext xe) (aJ.ext xe) xq) ?_)));rintro _ u93 au rfl;refine zzb (zzt (b:=decide ((cdiv (cdiv b ((n*n:Nat):Int)) ((2*j+3:Nat):Int))≤1)) xj (fun ae=>?_) (fun ae=>?_))
 ·have qhb96:=qyt ae;refine sq9 (zzh 38 (.v (.agg #[.bool aF.s,aF.m.v,.bool aE.s,aE.m.v])) ty117 zze (zzg 39 159 _ fun _ _ aZ bn=>qym (k_eWider bn (a1.ext xe) (aT.ext xe) xq) ?_));rintro _ a6 bm ⟨aL,ak,rfl,bl,aQ⟩;refine zzi ⟨117,aL.cs++ak.cs⟩ ty117 ?_;refine zzb (zzn (zyt (zzv (zys (zyt (ret0 [.agg #[.bool aL.s,aL.m.v,.bool ak.s,ak.m.v]] ⟨zzq ty117 zze,trivial⟩ fun bg aG=>?_))))));have ho:=hI.out xq (qyt ae) (hI.add xq aa) (by have h9:=hI.tw xq;omega);have hob:=atR_bd ho xq;exact⟨aL,ak,_,_,rfl,IntN.lim2 (bl.ext aG) xq xq,IntN.lim2 (aQ.ext aG) xq xq,ho⟩
 have qhb96:=qyf ae;refine zzr (zzo ?_);refine zzf (zza 15 (zI (2*j+3:Nat)) (qwi 16 (((2*j+3:Nat):Int)+2) (((2*j+3)+2:Nat):Int) xk (zza 7 (zI (((2*j+3)+2:Nat):Int)) (zzw ?_))));have hgo:=hI.go xq (by have h9:=qyf ae;omega) (hI.add xq aa) (by have h9:=hI.tw xq;omega);have hb:=hgo.1.bd xq;have hp0:=hgo.1.p0;have hp1:=hgo.1.p1;have hple:=hgo.1.p.le;have hpp:=hI.p1;refine⟨_,?_,_,by exact zzu _ _ _,j+1,ay,av,aF,aE,(a/((n*n:Nat):Int)),(cdiv b ((n*n:Nat):Int)),(cc+((a/((n*n:Nat):Int))/((2*j+3:Nat):Int))),(dd+(cdiv (cdiv b ((n*n:Nat):Int)) ((2*j+3:Nat):Int))),rfl,hgo.1,rfl,(aV.t (aq.t (ar.t (am.t (az.t (ad.t (ac.t (ab.t (aj.t (an.t (aH.t (ap.t au.ext)))))))))))),(IntN.lim (aR.ext xe) xq xq),(IntN.lim (aO.ext xe) xq xq),(IntN.lim (a1.ext xe) xq xq),(IntN.lim (aT.ext xe) xq xq)⟩
 omega
theorem k_ePi{u w:World}{k:Nat}(d:Dat u w)(hk0:16≤k)(hk:k≤800):qyc 152 #[.int .i64 (k:Int)] w (Post u w fun v u'=>∃(i j:IL) (a b:Int),v=SP i j∧IntN u' i a 42∧IntN u' j b 42∧PiR k a b):=by
 have hbig:=big hk;have hu2:=u2_pos k;refine zzl Tryz.func152 rfl Tryz.ntmps152 Tryz.results152 d ?_;refine sq9 (zzj 2 ⟨117,[.bool false,qyn,.bool false,qyn]⟩ (zzb (sq9 (zza 3 (zI k) (zzg 4 190 _ fun _ _ _ aI=>qym (k_arctan aI (n:=5) (k:=k) xq xq xq) ?_)))));rintro _ u13 g14 ⟨ap,aK,aH,ax,rfl,ag,ah,af⟩;refine zzg 5 153 _ fun _ _ ak ay=>qym (k_eTimes ay (ag.ext ak) (ah.ext ak) (n9:=16) xq xq) ?_;rintro _ u21 g22 ⟨i17,i19,rfl,aG,az⟩;refine zza 6 (zI k) (zzg 7 190 _ fun _ _ al aq=>qym (k_arctan aq (n:=239) (k:=k) xq xq xq) ?_);rintro _ u26 ao ⟨aA,aB,aF,aD,rfl,ai,ae,aj⟩;refine zzg 8 153 _ fun _ _ ab au=>qym (k_eTimes au (ai.ext ab) (ae.ext ab) (n9:=4) xq xq) ?_;rintro _ u34 am ⟨i30,i32,rfl,aJ,av⟩;refine zzg 9 156 _ fun _ _ ac aw=>qym (k_eSub aw (aG.ext xe) (az.ext xe) (aJ.ext ac) (av.ext ac) xq xq) ?_;rintro _ u42 g43 ⟨ad,aa,rfl,ar,aE⟩;refine zzi ⟨117,ad.cs++aa.cs⟩ ty117 ?_;refine zzb (zzn (ret0 [.agg #[.bool ad.s,ad.m.v,.bool aa.s,aa.m.v]] ⟨zzq ty117 zze,trivial⟩ fun u45 an=>?_));have hP:=PiR.of af aj;have hb9:=hP.bd hk0;exact⟨ad,aa,_,_,rfl,IntN.lim2 (ar.ext an) xq xq,IntN.lim2 (aE.ext an) xq xq,hP⟩
theorem k_cosineOf{u w:World}{p q k:Nat}(d:Dat u w)(hq0:0<q)(hq:q≤100000)(hp:2*p≤q)(hp1:1≤p)(hk0:16≤k)(hk:k≤800):qyc 101 #[.int .i64 (p:Int),.int .i64 (q:Int),.int .i64 (k:Int)] w (Post u w fun v u'=>∃(i j:IL) (a b:Int),v=SP i j∧IntN u' i a 42∧IntN u' j b 42∧CsR p q k a b):=by
 have hbig:=big hk;have hu2:=u2_pos k;refine zzl Tryz.func101 rfl Tryz.ntmps101 Tryz.results101 d ?_;refine sq9 (zzj 6 ⟨117,[.bool false,qyn,.bool false,qyn]⟩ (zzb (sq9 (zza 12 (zI k) (zzg 13 152 _ fun _ _ _ bU=>qym (k_ePi bU (k:=k) xq xq) ?_)))));rintro _ u13 g14 ⟨bq,bp,ap,ar,rfl,a6,aY,a5⟩;refine zza 14 (zI p) (zzg 15 153 _ fun _ _ bg bP=>qym (k_eTimes bP (a6.ext bg) (aY.ext bg) (n9:=p) xq xq) ?_);rintro _ u21 g22 ⟨i17,i19,rfl,bx,bR⟩;refine zza 16 (zI q) (zzg 17 74 _ fun _ _ a9 bK=>qym (k_intOf bK (z:=(q:Int)) xq xq) ?_);rintro _ u27 ba ⟨i25,rfl,bF⟩;refine zzg 18 154 _ fun _ _ a2 bl=>qym (k_eOver bl (bx.ext xe) (bR.ext xe) (bF.ext a2) xq xq xq) ?_;rintro _ u35 g36 ⟨aM,aL,rfl,a8,bc⟩;refine zzj 7 ⟨117,[.bool false,qyn,.bool false,qyn]⟩ (zzi ⟨117,aM.cs++aL.cs⟩ ty117 ?_);refine zzb (zzd ?_);have hY:CsY p q k ((ap*((p:Nat):Int))/(q:Int)) (cdiv (ar*((p:Nat):Int)) (q:Int)):=CsY.of a5 hk0 hq0 hp hp1;refine zzf (zzh 19 (.v (.agg #[.bool aM.s,aM.m.v,.bool aL.s,aL.m.v])) ty117 zze (zzh 20 (.v (.agg #[.bool aM.s,aM.m.v,.bool aL.s,aL.m.v])) ty117 zze (zza 21 (zI k) (zzg 22 155 _ fun _ _ aU bE=>qym (k_eProd (p:=k) bE (a8.ext aU) (bc.ext aU) (a8.ext aU) (bc.ext aU) xq xq xq) ?_))));rintro _ u43 g44 ⟨aR,aK,rfl,bD,br⟩;refine zzj 8 ⟨117,[.bool false,qyn,.bool false,qyn]⟩ (zzi ⟨117,aR.cs++aK.cs⟩ ty117 ?_);refine zzb (zzd ?_);have hQ:CsQ p q k (((ap*((p:Nat):Int))/(q:Int))*((ap*((p:Nat):Int))/(q:Int))/Nt.u2 k) (cdiv ((cdiv (ar*((p:Nat):Int)) (q:Int))*(cdiv (ar*((p:Nat):Int)) (q:Int))) (Nt.u2 k)):=CsQ.of hY;obtain⟨_,bf,bL,bJ,bi,bB⟩:=id hQ;obtain⟨ql,hql⟩:∃z:Int,(((ap*((p:Nat):Int))/(q:Int))*((ap*((p:Nat):Int))/(q:Int))/Nt.u2 k)=z:=⟨_,rfl⟩
 obtain⟨qh,hqh⟩:∃z:Int,(cdiv ((cdiv (ar*((p:Nat):Int)) (q:Int))*(cdiv (ar*((p:Nat):Int)) (q:Int))) (Nt.u2 k))=z:=⟨_,rfl⟩
 have hs46:=bD;have hs47:=br;rw[hql] at hQ bf bL bi hs46;rw[hqh] at hQ bf bJ bi bB hs47;have hs48:=IntN.lim2 hs46 xq xq;have hs49:=IntN.lim2 hs47 xq xq;refine zzf (zza 23 (zI k) (zzg 24 149 _ fun _ _ bh bG=>qym (k_eUnit (k:=k) bG xq) ?_));rintro _ bm bj ⟨ai,rfl,aV⟩;refine zzj 9 ⟨117,[.bool false,qyn,.bool false,qyn]⟩ (zzi ⟨117,ai.cs++ai.cs⟩ ty117 ?_);refine zzb (sq9 (zzh 25 (.v (.agg #[.bool ai.s,ai.m.v,.bool ai.s,ai.m.v])) ty117 zze (zzj 10 ⟨117,[.bool false,qyn,.bool false,qyn]⟩ (zzi ⟨117,ai.cs++ai.cs⟩ ty117 ?_))));refine zzb (sq9 (zza 11 (zI 2) (zzb (zzs (zym (I:=fun be S' u'=>∃(j:Nat) (x1:IL) (x2:IL) (y1:IL) (y2:IL) (tl:Int) (th:Int) (sl:Int) (sh:Int),(be=csM k j th)∧(CsI p q k j tl th sl sh)∧(S'=St.of 55 [(2,zI k),(6,.adr 6 0),(8,.adr 8 0),(9,.adr 9 0),(10,.adr 10 0),(11,zI (2*j+2:Nat))] [(6,⟨117,[.bool false,qyn,.bool false,qyn]⟩),(8,⟨117,aR.cs++aK.cs⟩),(9,⟨117,x1.cs++x2.cs⟩),(10,⟨117,y1.cs++y2.cs⟩)])∧(Ext bm u')∧(IntN u' x1 tl 42)∧(IntN u' x2 th 42)∧(IntN u' y1 sl 42)∧(IntN u' y2 sh 42)) (fun m S u1 u2 e h=>by obtain⟨j,x1,x2,y1,y2,tl,th,sl,sh,hm,p0,hS,hE,f0,f1,f2,f3⟩:=h;exact⟨j,x1,x2,y1,y2,tl,th,sl,sh,hm,p0,hS,hE.trans e,f0.ext e,f1.ext e,f2.ext e,f3.ext e⟩) _ yq ⟨0,ai,ai,ai,ai,(Nt.u2 k),(Nt.u2 k),(Nt.u2 k),(Nt.u2 k),rfl,CsI.start,rfl,(Ext.refl _),(IntN.lim2 aV xq xq),(IntN.lim2 aV xq xq),(IntN.lim2 aV xq xq),(IntN.lim2 aV xq xq)⟩ ?_)))));rintro be _ u56 ⟨j,x1,x2,y1,y2,tl,th,sl,sh,bT,hI,rfl,aJ,f0,f1,f2,f3⟩;have hjw:=hI.c.jw;have hD1:=coD_pos j;have hD2:=coD_mul (j:=j) xq;refine zzd (zzs (sq9 (zzh 28 (.v (.agg #[.bool x1.s,x1.m.v,.bool x2.s,x2.m.v])) ty117 zze (zzh 29 (.v (.agg #[.bool aR.s,aR.m.v,.bool aK.s,aK.m.v])) ty117 zze (zza 30 (zI k) (zzg 31 155 _ fun _ _ aj bH=>qym (k_eProd (p:=k) bH (f0.ext aj) (f1.ext aj) (hs48.ext (bh.t (bj.t (aJ.trans aj)))) (hs49.ext (bh.t (bj.t (aJ.trans aj)))) xq xq xq) ?_))))));rintro _ u62 aA ⟨i58,i60,rfl,bw,bz⟩;refine zza 32 (zI (2*j+2:Nat)) (zza 33 (zI (2*j+2:Nat)) (qwi 34 (((2*j+2:Nat):Int)-1) (((2*j+2)-1:Nat):Int) xk (zqI 35 (show(IntKind.i64.wrap (((2*j+2:Nat):Int)*((2*j+2-1:Nat):Int)))=(coD j) from hD2.1) (zzg 36 74 _ fun _ _ av bo=>qym (k_intOf bo (z:=(coD j)) xq xq) ?_))));rintro _ u68 au ⟨i66,rfl,bu⟩;refine zzg 37 154 _ fun _ _ am bQ=>qym (k_eOver bQ (bw.ext xe) (bz.ext xe) (bu.ext am) xq xq xq) ?_;rintro _ u76 aE ⟨ag,ah,rfl,aB,aD⟩;refine zzi ⟨117,ag.cs++ah.cs⟩ ty117 ?_;refine zzc 55 [(2,zI k),(6,.adr 6 0),(8,.adr 8 0),(9,.adr 9 0),(10,.adr 10 0),(11,zI (2*j+2:Nat))] [(6,⟨117,[.bool false,qyn,.bool false,qyn]⟩),(8,⟨117,aR.cs++aK.cs⟩),(9,⟨117,ag.cs++ah.cs⟩),(10,⟨117,y1.cs++y2.cs⟩)] (zzd (sq9 (zza 38 (zI (2*j+2:Nat)) (zza 39 (zI (Int.tmod ((2*j+2:Nat):Int) 4)) (zza 40 (zB ((Int.tmod ((2*j+2:Nat):Int) 4)==2)) (zzb (zzt (b:=(Int.tmod ((2*j+2:Nat):Int) 4)==2) xj (fun aH=>?_) (fun aH=>?_))))))))
 ·have an:Int.tmod ((2*j+2:Nat):Int) 4=((2*j+2:Nat):Int)%4:=Int.tmod_eq_emod_of_nonneg xq;have aa :  j%2=0:=by have h9:=aH;rw[an] at h9;simp at h9;omega
  refine zzf (zzh 41 (.v (.agg #[.bool y1.s,y1.m.v,.bool y2.s,y2.m.v])) ty117 zze (zzh 42 (.v (.agg #[.bool ag.s,ag.m.v,.bool ah.s,ah.m.v])) ty117 zze (zzg 43 156 _ fun _ _ ak bN=>qym (k_eSub bN (f2.ext xe) (f3.ext xe) (aB.ext ak) (aD.ext ak) xq xq) ?_)));rintro _ u85 az ⟨aP,aO,rfl,a3,a7⟩;refine zzi ⟨117,aP.cs++aO.cs⟩ ty117 ?_;refine zzb (sq9 (zza 47 (zI (2*j+2:Nat)) (zza 48 (zB (decide ((4:Int)≤((2*j+2:Nat):Int)))) ?_)))
  rcases Bool.eq_false_or_eq_true (decide ((4:Int)≤((2*j+2:Nat):Int))) with hs88|hs88
  ·refine qbi 49 hs88 ?_;have qhs88:=qyt hs88;refine zzh 50 (.v (.agg #[.bool ag.s,ag.m.v,.bool ah.s,ah.m.v])) ty117 zze ?_ (hw:=w1 2 true 49);refine zzg 51 158 _ (fun _ _ ax bt=>qym (k_eTiny bt (aB.ext xe) (aD.ext xe) xq) ?_) (hw:=w1 2 true 49);rintro _ u90 aF rfl;refine zza 52 (zB (decide ((cdiv (cdiv (th*qh) (Nt.u2 k)) (coD j))≤1))) (zzb (zzt (b:=decide ((cdiv (cdiv (th*qh) (Nt.u2 k)) (coD j))≤1)) xj (fun ao=>?_) (fun ao=>?_)))
   ·have qhb93:=qyt ao;refine sq9 (zzh 53 (.v (.agg #[.bool aP.s,aP.m.v,.bool aO.s,aO.m.v])) ty117 zze (zzg 54 159 _ fun _ _ bb bM=>qym (k_eWider bM (a3.ext xe) (a7.ext xe) xq) ?_));rintro _ u99 bn ⟨aW,aT,rfl,bA,bO⟩;refine zzi ⟨117,aW.cs++aT.cs⟩ ty117 ?_;refine zzb (zzn (zyt (zzv (zys (zyt (ret0 [.agg #[.bool aW.s,aW.m.v,.bool aT.s,aT.m.v]] ⟨zzq ty117 zze,trivial⟩ fun bk aQ=>?_))))));have ho:=hI.out hQ hq0 hp (by have h9:=qyt hs88;omega) (qyt ao) (sl':=(sl-(cdiv (cdiv (th*qh) (Nt.u2 k)) (coD j)))) (sh':=(sh-((tl*ql/Nt.u2 k)/(coD j)))) (.inl ⟨aa,rfl,rfl⟩);have hob:=csR_bd ho hq0 hp hk;exact⟨aW,aT,_,_,rfl,IntN.lim2 (bA.ext aQ) xq xq,IntN.lim2 (bO.ext aQ) xq xq,ho⟩
   have qhb93:=qyf ao;refine zzr (zzo ?_);refine zzf (zza 26 (zI (2*j+2:Nat)) (qwi 27 (((2*j+2:Nat):Int)+2) (((2*j+2)+2:Nat):Int) xk (zza 11 (zI (((2*j+2)+2:Nat):Int)) (zzw ?_))));have hgo:=hI.go hQ (.inr (by have h9:¬csH k j th qh≤1:=qyf ao;omega)) (sl':=(sl-(cdiv (cdiv (th*qh) (Nt.u2 k)) (coD j)))) (sh':=(sh-((tl*ql/Nt.u2 k)/(coD j)))) (.inl ⟨aa,rfl,rfl⟩);have hb9:=hgo.1.bd hq0 hp;have hw9:=csW_le hk;have ht0:=hgo.1.c.t0;have ht1:=hgo.1.c.t1;have htt:=hgo.1.c.tt;have ht2:=hgo.1.c.t2;have hmm:=hgo.2
   simp only[csL,csH] at ht0 ht1 htt ht2 hmm
   refine⟨_,?_,_,by exact zzu _ _ _,j+1,ag,ah,aP,aO,((tl*ql/Nt.u2 k)/(coD j)),(cdiv (cdiv (th*qh) (Nt.u2 k)) (coD j)),(sl-(cdiv (cdiv (th*qh) (Nt.u2 k)) (coD j))),(sh-((tl*ql/Nt.u2 k)/(coD j))),rfl,hgo.1,rfl,(aJ.t (aj.t (aA.t (av.t (au.t (am.t (aE.t (ak.t (az.t (ax.t aF.ext)))))))))),(IntN.lim2 (aB.ext xe) xq xq),(IntN.lim2 (aD.ext xe) xq xq),(IntN.lim2 (a3.ext xe) xq xq),(IntN.lim2 (a7.ext xe) xq xq)⟩
   omega
  refine qbi 49 hs88 ?_;have qhs88:=qyf hs88;refine zzm 50 (uw 2 true false 49) (zzm 51 (uw 2 true false 49) (zza 52 (zB false) (zzb (zyr xj (zzr (zzo ?_))))));refine zzf (zza 26 (zI (2*j+2:Nat)) (qwi 27 (((2*j+2:Nat):Int)+2) (((2*j+2)+2:Nat):Int) xk (zza 11 (zI (((2*j+2)+2:Nat):Int)) (zzw ?_))));have hgo:=hI.go hQ (.inl (by have h9:=qyf hs88;omega)) (sl':=(sl-(cdiv (cdiv (th*qh) (Nt.u2 k)) (coD j)))) (sh':=(sh-((tl*ql/Nt.u2 k)/(coD j)))) (.inl ⟨aa,rfl,rfl⟩);have hb9:=hgo.1.bd hq0 hp;have hw9:=csW_le hk;have ht0:=hgo.1.c.t0;have ht1:=hgo.1.c.t1;have htt:=hgo.1.c.tt;have ht2:=hgo.1.c.t2;have hmm:=hgo.2
  simp only[csL,csH] at ht0 ht1 htt ht2 hmm
  refine⟨_,?_,_,by exact zzu _ _ _,j+1,ag,ah,aP,aO,((tl*ql/Nt.u2 k)/(coD j)),(cdiv (cdiv (th*qh) (Nt.u2 k)) (coD j)),(sl-(cdiv (cdiv (th*qh) (Nt.u2 k)) (coD j))),(sh-((tl*ql/Nt.u2 k)/(coD j))),rfl,hgo.1,rfl,(aJ.t (aj.t (aA.t (av.t (au.t (am.t (aE.t (ak.t az.ext)))))))),(IntN.lim2 (aB.ext xe) xq xq),(IntN.lim2 (aD.ext xe) xq xq),(IntN.lim2 a3 xq xq),(IntN.lim2 a7 xq xq)⟩
  omega
 have an:Int.tmod ((2*j+2:Nat):Int) 4=((2*j+2:Nat):Int)%4:=Int.tmod_eq_emod_of_nonneg xq;have aa:¬j%2=0:=by have h9:=aH;rw[an] at h9;simp at h9;omega
 refine zzf (zzh 44 (.v (.agg #[.bool y1.s,y1.m.v,.bool y2.s,y2.m.v])) ty117 zze (zzh 45 (.v (.agg #[.bool ag.s,ag.m.v,.bool ah.s,ah.m.v])) ty117 zze (zzg 46 157 _ fun _ _ ab a0=>qym (k_eAdd a0 (f2.ext xe) (f3.ext xe) (aB.ext ab) (aD.ext ab) xq xq) ?_)));rintro _ bS ae ⟨aq,al,rfl,aI,aG⟩;refine zzi ⟨117,aq.cs++al.cs⟩ ty117 ?_;refine zzb (sq9 (zza 47 (zI (2*j+2:Nat)) (zza 48 (zB (decide ((4:Int)≤((2*j+2:Nat):Int)))) ?_)))
 rcases Bool.eq_false_or_eq_true (decide ((4:Int)≤((2*j+2:Nat):Int))) with hs112|hs112
 ·refine qbi 49 hs112 ?_;have qhs112:=qyt hs112;refine zzh 50 (.v (.agg #[.bool ag.s,ag.m.v,.bool ah.s,ah.m.v])) ty117 zze ?_ (hw:=w1 2 true 49);refine zzg 51 158 _ (fun _ _ ac a4=>qym (k_eTiny a4 (aB.ext xe) (aD.ext xe) xq) ?_) (hw:=w1 2 true 49);rintro _ bC af rfl;refine zza 52 (zB (decide ((cdiv (cdiv (th*qh) (Nt.u2 k)) (coD j))≤1))) (zzb (zzt (b:=decide ((cdiv (cdiv (th*qh) (Nt.u2 k)) (coD j))≤1)) xj (fun ad=>?_) (fun ad=>?_)))
  ·have qhb117:=qyt ad;refine sq9 (zzh 53 (.v (.agg #[.bool aq.s,aq.m.v,.bool al.s,al.m.v])) ty117 zze (zzg 54 159 _ fun _ _ aN aZ=>qym (k_eWider aZ (aI.ext xe) (aG.ext xe) xq) ?_));rintro _ bv bI ⟨aw,ay,rfl,a1,aX⟩;refine zzi ⟨117,aw.cs++ay.cs⟩ ty117 ?_;refine zzb (zzn (zyt (zzv (zys (zyt (ret0 [.agg #[.bool aw.s,aw.m.v,.bool ay.s,ay.m.v]] ⟨zzq ty117 zze,trivial⟩ fun bs aS=>?_))))));have ho:=hI.out hQ hq0 hp (by have h9:=qyt hs112;omega) (qyt ad) (sl':=(sl+((tl*ql/Nt.u2 k)/(coD j)))) (sh':=(sh+(cdiv (cdiv (th*qh) (Nt.u2 k)) (coD j)))) (.inr ⟨aa,rfl,rfl⟩);have hob:=csR_bd ho hq0 hp hk;exact⟨aw,ay,_,_,rfl,IntN.lim2 (a1.ext aS) xq xq,IntN.lim2 (aX.ext aS) xq xq,ho⟩
  have qhb117:=qyf ad;refine zzr (zzo ?_);refine zzf (zza 26 (zI (2*j+2:Nat)) (qwi 27 (((2*j+2:Nat):Int)+2) (((2*j+2)+2:Nat):Int) xk (zza 11 (zI (((2*j+2)+2:Nat):Int)) (zzw ?_))));have hgo:=hI.go hQ (.inr (by have h9:¬csH k j th qh≤1:=qyf ad;omega)) (sl':=(sl+((tl*ql/Nt.u2 k)/(coD j)))) (sh':=(sh+(cdiv (cdiv (th*qh) (Nt.u2 k)) (coD j)))) (.inr ⟨aa,rfl,rfl⟩);have hb9:=hgo.1.bd hq0 hp;have hw9:=csW_le hk;have ht0:=hgo.1.c.t0;have ht1:=hgo.1.c.t1;have htt:=hgo.1.c.tt;have ht2:=hgo.1.c.t2;have hmm:=hgo.2
  simp only[csL,csH] at ht0 ht1 htt ht2 hmm
  refine⟨_,?_,_,by exact zzu _ _ _,j+1,ag,ah,aq,al,((tl*ql/Nt.u2 k)/(coD j)),(cdiv (cdiv (th*qh) (Nt.u2 k)) (coD j)),(sl+((tl*ql/Nt.u2 k)/(coD j))),(sh+(cdiv (cdiv (th*qh) (Nt.u2 k)) (coD j))),rfl,hgo.1,rfl,(aJ.t (aj.t (aA.t (av.t (au.t (am.t (aE.t (ab.t (ae.t (ac.t af.ext)))))))))),(IntN.lim2 (aB.ext xe) xq xq),(IntN.lim2 (aD.ext xe) xq xq),(IntN.lim2 (aI.ext xe) xq xq),(IntN.lim2 (aG.ext xe) xq xq)⟩
  omega
 refine qbi 49 hs112 ?_;have qhs112:=qyf hs112;refine zzm 50 (uw 2 true false 49) (zzm 51 (uw 2 true false 49) (zza 52 (zB false) (zzb (zyr xj (zzr (zzo ?_))))));refine zzf (zza 26 (zI (2*j+2:Nat)) (qwi 27 (((2*j+2:Nat):Int)+2) (((2*j+2)+2:Nat):Int) xk (zza 11 (zI (((2*j+2)+2:Nat):Int)) (zzw ?_))));have hgo:=hI.go hQ (.inl (by have h9:=qyf hs112;omega)) (sl':=(sl+((tl*ql/Nt.u2 k)/(coD j)))) (sh':=(sh+(cdiv (cdiv (th*qh) (Nt.u2 k)) (coD j)))) (.inr ⟨aa,rfl,rfl⟩);have hb9:=hgo.1.bd hq0 hp;have hw9:=csW_le hk;have ht0:=hgo.1.c.t0;have ht1:=hgo.1.c.t1;have htt:=hgo.1.c.tt;have ht2:=hgo.1.c.t2;have hmm:=hgo.2
 simp only[csL,csH] at ht0 ht1 htt ht2 hmm
 refine⟨_,?_,_,by exact zzu _ _ _,j+1,ag,ah,aq,al,((tl*ql/Nt.u2 k)/(coD j)),(cdiv (cdiv (th*qh) (Nt.u2 k)) (coD j)),(sl+((tl*ql/Nt.u2 k)/(coD j))),(sh+(cdiv (cdiv (th*qh) (Nt.u2 k)) (coD j))),rfl,hgo.1,rfl,(aJ.t (aj.t (aA.t (av.t (au.t (am.t (aE.t (ab.t ae.ext)))))))),(IntN.lim2 (aB.ext xe) xq xq),(IntN.lim2 (aD.ext xe) xq xq),(IntN.lim2 aI xq xq),(IntN.lim2 aG xq xq)⟩
 omega
section
variable (P:Program) (w0:Base) (u0:World)
def MP.into(I:Nat→St→World→Prop)(Q:MP)(hI:∀m,Mono (I m)):MP where
 f e S u:=match e with|.normal=>∃m T,Weak S T∧I m T u|.goto _=>False|e=>Q.f e S u
 mono e:=by
  cases e<;>first|exact Q.mono _|skip
  ·rintro S u u' he ⟨m,T,h1,h2⟩;exact⟨m,T,h1,hI m T u u' he h2⟩
  exact fun S u u' he h=>h
def MP.jump(l:Nat)(I:Nat→St→World→Prop)(n:Nat)(Q:MP)(hI:∀m,Mono (I m)):MP where
 f e S u:=match e with|.goto l'=>l'=l∧∃m,m<n∧∃T,Weak S T∧I m T u|e=>Q.f e S u
 mono e:=by
  cases e<;>first|exact Q.mono _|skip
  rintro S u u' he ⟨hl,m,hm,T,h1,h2⟩;exact⟨hl,m,hm,T,h1,hI m T u u' he h2⟩
end
section
variable {P:Program} {w0:Base} {u0:World} {S T:St} {B:Tmp→Nat} {a:Act} {w u u':World} {Q:MP} {c d A R:Code}
theorem sw_goto{l:Nat}(h:Q.f (.goto l) S u):SW P w0 u0 (.goto l) S u Q:=fun B a w u' e hr=>wp_goto ⟨S,B,u',hr,Q.mono _ _ _ _ e h⟩
theorem mpg_seq{l:Nat}{c:Code}{Q:MP}(h:Q.f (.goto l) S u):(MP.seq P w0 u0 c Q).f (.goto l) S u:=h
theorem mpg_jump{l n m:Nat}{I:Nat→St→World→Prop}{Q:MP}{hI:∀m,Mono (I m)}(hm:m<n)(hw:Weak S T)(h:I m T u):(MP.jump l I n Q hI).f (.goto l) S u:=⟨rfl,m,hm,T,hw,h⟩
theorem mpr_jump{l n:Nat}{I:Nat→St→World→Prop}{Q:MP}{hI:∀m,Mono (I m)}(h:Q.f .ret S u):(MP.jump l I n Q hI).f .ret S u:=h
theorem mpi_into{m:Nat}{I:Nat→St→World→Prop}{Q:MP}{hI:∀m,Mono (I m)}(hw:Weak S T)(h:I m T u):(MP.into I Q hI).f .normal S u:=⟨m,T,hw,h⟩
theorem sw_scope{l:Nat}{I:Nat→St→World→Prop}(hI:∀m,Mono (I m))(hf:findLabel (.seq A (.seq (.label l) R)) l=some (.seq .skip R))(hA:SW P w0 u0 A S u (MP.into I Q hI))(h:∀n S u,I n S u→SW P w0 u0 R S u (MP.jump l I n Q hI)):SW P w0 u0 (.scope (.seq A (.seq (.label l) R))) S u Q:=by
 intro B a w u' e hr
 let J:Nat→Act→World→Prop:=fun n a w=>∃S B u'',Rep w0 u0 S B a w u''∧I n S u''
 let μ:Act→World→Nat:=fun a w=>Classical.epsilon fun m=>J m a w∧∀k,J k a w→m≤k
 have hμ:∀a w n,J n a w→J (μ a w) a w∧μ a w≤n:=fun a w n hn=>by
  have:=Classical.epsilon_spec (p:=fun m=>J m a w∧∀k,J k a w→m≤k) (least n hn);exact⟨this.1,this.2 n hn⟩
 refine wp_scope_jumps l (fun a w=>∃n,J n a w) μ hf ?_ ?_
 ·refine wp_seq (wp_mono (hA B a w u' e hr) fun ex a' w' ⟨S',B',u'',k1,k3⟩=>?_)
  cases ex with
  | normal=>
   obtain⟨m,T',t1,t2⟩:=k3;refine wp_seq (wp_label ?_);refine wp_mono (h m T' u'' t2 B' a' w' u'' (Ext.refl _) (k1.weak t1)) fun ex a' w' ⟨S',B',u'',k1,k3⟩=>?_
   cases ex with
   | goto l'=>
    obtain⟨rfl,m,hm,T',t1,t2⟩:=k3;exact⟨rfl,m,T',B',u'',k1.weak t1,t2⟩
   | _=>exact⟨S',B',u'',k1,k3⟩
  | goto l'=>exact k3.elim
  | _=>exact⟨S',B',u'',k1,k3⟩
 rintro a w ⟨n,hn⟩;obtain⟨S1,B1,u1,r1,i1⟩:=(hμ a w n hn).1;refine wp_seq (wp_skip ?_);refine wp_mono (h _ S1 u1 i1 B1 a w u1 (Ext.refl _) r1) fun ex a' w' ⟨S',B',u'',k1,k3⟩=>?_
 cases ex with
 | goto l'=>
  obtain⟨rfl,m,hm,T',t1,t2⟩:=k3;have hJ:J m a' w':=⟨T',B',u'',k1.weak t1,t2⟩
  exact⟨rfl,⟨m,hJ⟩,Nat.lt_of_le_of_lt (hμ a' w' m hJ).2 hm⟩
 | _=>exact⟨S',B',u'',k1,k3⟩
end
theorem sw_joinP{P:Program}{w0:Base}{u0 u:World}{S:St}{r c:Code}{Q:MP}(I:St→World→Prop)(h1:∀S' u1,Ext u u1→I S' u1→SW P w0 u0 c S' u1 Q)(h2:(∀S' u1,Ext u u1→I S' u1→SW P w0 u0 c S' u1 Q)→SW P w0 u0 r S u (MP.seq P w0 u0 c Q)):SW P w0 u0 r S u (MP.seq P w0 u0 c Q):=h2 h1
end Go.Proofs.YtcpnfblekhgmgaaGreat

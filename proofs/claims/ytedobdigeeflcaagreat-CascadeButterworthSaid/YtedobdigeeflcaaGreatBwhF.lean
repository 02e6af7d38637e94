/- Parts of the proof: contracts of functions, each walked once, and plain laws. -/
import Derived.Test.YtedobdigeeflcaaGreatBwhE
import Derived.IntWalk
import Derived.ScopeJumps
import Derived.ArgAppend
set_option linter.unusedVariables false
set_option maxHeartbeats 8000000
namespace Go.Proofs.YtedobdigeeflcaaGreat
open Nt
open Go.RowKit
namespace Nt
theorem lo4_eq (a b c d:Rat):lo (lo a b) (lo c d)=lo4 a b c d:=by unfold lo4 lo;grind
theorem hi4_eq (a b c d:Rat):hi (hi a b) (hi c d)=hi4 a b c d:=by unfold hi4 hi;grind
end Nt
theorem k_r4Add {u w:World} {a1 a2:RL} {x1 x2:Rat} {b1 b2:RL} {y1 y2:Rat} {K L:Nat} (d:Dat u w) (ha1:RatV u a1 x1 K) (ha2:RatV u a2 x2 K) (hb1:RatV u b1 y1 L) (hb2:RatV u b2 y2 L) (hK:K≤40000000) (hL:L≤40000000):qyc 159 #[IV a1 a2,IV b1 b2] w (Post u w fun v u'=>∃p q:RL,v=IV p q∧RatN u' p (Nt.lo x1 x2+Nt.lo y1 y2) (K+L+2)∧RatN u' q (Nt.hi x1 x2+Nt.hi y1 y2) (K+L+2)):=by
 refine zzm Tryz.func159 rfl Tryz.ntmps159 Tryz.results159 d ?_
 refine sq9 (zzk 2 ⟨57,a1.cs++a2.cs⟩ (zzk 3 ⟨57,b1.cs++b2.cs⟩ (zzk 4 ⟨57,zw6⟩ (zzb (zzd (zzz [0,1,0,7,15,31] [(0,[]),(2,[]),(1,[]),(3,[]),(4,[]),(5,[])] xj xj (zzi 5 (.v (.agg #[.bool a1.s,a1.m.v,a1.d.v,.bool a2.s,a2.m.v,a2.d.v])) ty57 zze (zzi 7 (.v (.agg #[.bool b1.s,b1.m.v,b1.d.v,.bool b2.s,b2.m.v,b2.d.v])) ty57 zze (zzg 6 156 _ fun _ _ ac au=>qym (k_r4Trim au (ha1.ext ac) (ha2.ext ac) xq) ?_)))))))))
 rintro _ u16 ah ⟨aj,an,rfl,ao,aw⟩
 refine zzg 8 156 _ fun _ _ ae aA=>qym (k_r4Trim aA (hb1.ext (ac.t (ah.t ae))) (hb2.ext (ac.t (ah.t ae))) xq) ?_
 rintro _ u24 ag ⟨ak,am,rfl,av,ay⟩
 refine zzj ⟨57,aj.cs++an.cs⟩ ty57 ?_
 refine zzj ⟨57,ak.cs++am.cs⟩ ty57 ?_
 refine zzb (zzd (zzz [0,1,0,4,15,0,32,0,128,511,1023,2047] [(0,[]),(1,[]),(2,[]),(3,[]),(5,[]),(6,[]),(7,[]),(8,[]),(4,[]),(9,[]),(10,[]),(11,[])] xj xj (zza 9 (.adr 2 0) (zzi 10 (.v (aj.v)) ty28 zze (zza 11 (.adr 3 0) (zzi 12 (.v (ak.v)) ty28 zze (zza 14 (.adr 2 3) (zzi 15 (.v (an.v)) ty28 zze (zza 16 (.adr 3 3) (zzi 17 (.v (am.v)) ty28 zze (zzg 13 17 _ fun _ _ ad aB=>qym (k_rqAdd aB (ao.ext (ae.t (ag.t ad))).raw (av.ext ad).raw xq xq) ?_)))))))))))
 rintro _ u30 al ⟨ab,rfl,ar⟩
 refine zzg 18 17 _ fun _ _ af ap=>qym (k_rqAdd ap (aw.ext (ae.t (ag.t (ad.t (al.t af))))).raw (ay.ext (ad.t (al.t af))).raw xq xq) ?_
 rintro _ u36 aq ⟨aa,rfl,ax⟩
 refine zza 19 (.v (.agg #[.bool ab.s,ab.m.v,ab.d.v,.bool aa.s,aa.m.v,aa.d.v])) (zzj ⟨57,ab.cs++aa.cs⟩ ty57 ?_)
 refine zzb (zzo (ret0 [.agg #[.bool ab.s,ab.m.v,ab.d.v,.bool aa.s,aa.m.v,aa.d.v]] ⟨zzr ty57 zze,trivial⟩ fun u39 ai=>?_))
 refine ⟨ab,aa,rfl,RatN.more (K:=(K+L+2)) ?_ xq,RatN.more (K:=(K+L+2)) ?_ xq⟩
 ·exact (ar.ext (af.t (aq.t ai)))
 exact (ax.ext ai)
theorem k_r4Mul {u w:World} {a1 a2:RL} {x1 x2:Rat} {b1 b2:RL} {y1 y2:Rat} {K L:Nat} (d:Dat u w) (ha1:RatV u a1 x1 K) (ha2:RatV u a2 x2 K) (hb1:RatV u b1 y1 L) (hb2:RatV u b2 y2 L) (hK:K≤40000000) (hL:L≤40000000):qyc 103 #[IV a1 a2,IV b1 b2] w (Post u w fun v u'=>∃p q:RL,v=IV p q∧RatN u' p (lo4 (x1*y1) (x1*y2) (x2*y1) (x2*y2)) (K+L+1)∧RatN u' q (hi4 (x1*y1) (x1*y2) (x2*y1) (x2*y2)) (K+L+1)):=by
 refine zzm Tryz.func103 rfl Tryz.ntmps103 Tryz.results103 d ?_
 refine sq9 (zzk 2 ⟨57,a1.cs++a2.cs⟩ (zzk 3 ⟨57,b1.cs++b2.cs⟩ (zzk 4 ⟨57,zw6⟩ (zzb (zzd (zzz [0,1,0,4,15,0,32,0,128,511,0,1024,0,4096,16383,0,32768,0,131072,524287,0,0,0,0,16777215,33554431,67108863,134217727] [(0,[]),(1,[]),(2,[]),(3,[]),(5,[]),(6,[]),(7,[]),(8,[]),(10,[]),(11,[]),(12,[]),(13,[]),(15,[]),(16,[]),(17,[]),(18,[]),(20,[]),(21,[]),(22,[]),(23,[]),(4,[]),(9,[]),(14,[]),(19,[]),(24,[]),(25,[]),(26,[]),(27,[])] xj xj (zza 9 (.adr 2 0) (zzi 10 (.v (a1.v)) ty28 zze (zza 11 (.adr 3 0) (zzi 12 (.v (b1.v)) ty28 zze (zza 14 (.adr 2 0) ?_)))))))))))
 refine zzi 15 (.v (a1.v)) ty28 zze (zza 16 (.adr 3 3) (zzi 17 (.v (b2.v)) ty28 zze (zza 19 (.adr 2 3) (zzi 20 (.v (a2.v)) ty28 zze (zza 21 (.adr 3 0) (zzi 22 (.v (b1.v)) ty28 zze (zza 24 (.adr 2 3) (zzi 25 (.v (a2.v)) ty28 zze (zza 26 (.adr 3 3) (zzi 27 (.v (b2.v)) ty28 zze (zzk 5 ⟨28,zw3⟩ ?_)))))))))))
 refine zzk 6 ⟨28,zw3⟩ (zzk 7 ⟨28,zw3⟩ (zzk 8 ⟨28,zw3⟩ (zzg 13 15 _ fun _ _ ab aI=>qym (k_rqMul aI (ha1.ext ab) (hb1.ext ab) xq xq) ?_)))
 rintro _ u14 ai ⟨aq,rfl,aB⟩
 refine zzg 18 15 _ fun _ _ aa aL=>qym (k_rqMul aL (ha1.ext (ab.t (ai.t aa))) (hb2.ext (ab.t (ai.t aa))) xq xq) ?_
 rintro _ u20 an ⟨au,rfl,aG⟩
 refine zzg 23 15 _ fun _ _ ae aT=>qym (k_rqMul aT (ha2.ext (ab.t (ai.t (aa.t (an.t ae))))) (hb1.ext (ab.t (ai.t (aa.t (an.t ae))))) xq xq) ?_
 rintro _ u26 al ⟨av,rfl,aD⟩
 refine zzg 28 15 _ fun _ _ ac aN=>qym (k_rqMul aN (ha2.ext (ab.t (ai.t (aa.t (an.t (ae.t (al.t ac))))))) (hb2.ext (ab.t (ai.t (aa.t (an.t (ae.t (al.t ac))))))) xq xq) ?_
 rintro _ u32 am ⟨aw,rfl,aF⟩
 refine zzj ⟨28,aq.cs⟩ ty28 ?_
 refine zzj ⟨28,au.cs⟩ ty28 ?_
 refine zzj ⟨28,av.cs⟩ ty28 ?_
 refine zzj ⟨28,aw.cs⟩ ty28 ?_
 refine zzc 44 [(4,.adr 4 0),(5,.adr 5 0),(6,.adr 6 0),(7,.adr 7 0),(8,.adr 8 0)] [(4,⟨57,zw6⟩),(5,⟨28,aq.cs⟩),(6,⟨28,au.cs⟩),(7,⟨28,av.cs⟩),(8,⟨28,aw.cs⟩)] (zzd (zzz [0,0,3,0,0,31,63,0,0,511,0,0,4095,8191,16383,32767] [(0,[]),(1,[]),(3,[]),(4,[]),(7,[]),(8,[]),(10,[]),(11,[]),(2,[]),(5,[]),(6,[]),(9,[]),(12,[]),(13,[]),(14,[]),(15,[])] xj xj (zzi 29 (.v (aq.v)) ty28 zze (zzi 30 (.v (au.v)) ty28 zze (zzi 32 (.v (av.v)) ty28 zze (zzi 33 (.v (aw.v)) ty28 zze (zzi 36 (.v (aq.v)) ty28 zze (zzi 37 (.v (au.v)) ty28 zze (zzi 39 (.v (av.v)) ty28 zze (zzi 40 (.v (aw.v)) ty28 zze (zzg 31 161 _ fun _ _ ad aK=>qym (k_rqMin aK (aB.ext (aa.t (an.t (ae.t (al.t (ac.t (am.t ad))))))).raw (aG.ext (ae.t (al.t (ac.t (am.t ad))))).raw xq xq) ?_)))))))))))
 rintro _ u38 aj ⟨r36,rfl,aV⟩
 refine zzg 34 161 _ fun _ _ ah aM=>qym (k_rqMin aM (aD.ext (ac.t (am.t (ad.t (aj.t ah))))).raw (aF.ext (ad.t (aj.t ah))).raw xq xq) ?_
 rintro _ u44 ao ⟨r42,rfl,aQ⟩
 refine zzg 35 161 _ fun _ _ ak aW=>qym (k_rqMin aW (aV.ext (ah.t (ao.t ak))).raw (aQ.ext ak).raw xq xq) ?_
 rintro _ u50 ar ⟨af,rfl,aO⟩
 refine zzg 38 162 _ fun _ _ ap aS=>qym (k_rqMax aS (aB.ext (aa.t (an.t (ae.t (al.t (ac.t (am.t (ad.t (aj.t (ah.t (ao.t (ak.t (ar.t ap))))))))))))).raw (aG.ext (ae.t (al.t (ac.t (am.t (ad.t (aj.t (ah.t (ao.t (ak.t (ar.t ap))))))))))).raw xq xq) ?_
 rintro _ u56 aA ⟨r54,rfl,aP⟩
 refine zzg 41 162 _ fun _ _ ax aJ=>qym (k_rqMax aJ (aD.ext (ac.t (am.t (ad.t (aj.t (ah.t (ao.t (ak.t (ar.t (ap.t (aA.t ax))))))))))).raw (aF.ext (ad.t (aj.t (ah.t (ao.t (ak.t (ar.t (ap.t (aA.t ax))))))))).raw xq xq) ?_
 rintro _ u62 aE ⟨r60,rfl,aR⟩
 refine zzg 42 162 _ fun _ _ ay aU=>qym (k_rqMax aU (aP.ext (ax.t (aE.t ay))).raw (aR.ext ay).raw xq xq) ?_
 rintro _ u68 aX ⟨ag,rfl,aH⟩
 refine zza 43 (.v (.agg #[.bool af.s,af.m.v,af.d.v,.bool ag.s,ag.m.v,ag.d.v])) (zzj ⟨57,af.cs++ag.cs⟩ ty57 ?_)
 refine zzb (zzo (ret0 [.agg #[.bool af.s,af.m.v,af.d.v,.bool ag.s,ag.m.v,ag.d.v]] ⟨zzr ty57 zze,trivial⟩ fun u71 aC=>?_))
 refine ⟨af,ag,rfl,RatN.more (K:=(max (max (K+L+1) (K+L+1)) (max (K+L+1) (K+L+1)))) ?_ xq,RatN.more (K:=(max (max (K+L+1) (K+L+1)) (max (K+L+1) (K+L+1)))) ?_ xq⟩
 ·rw[← lo4_eq];exact (aO.ext (ap.t (aA.t (ax.t (aE.t (ay.t (aX.t aC)))))))
 rw[← hi4_eq];exact (aH.ext aC)
section
variable {P:Program} (w:World)
theorem wpList_makeKC {ops:Array Oper} {rest:List Oper} {o:Oper} {a:Act} {Q:Exit→Act→World→Prop}
  (hg:o.guard=none) (l c:Operand) (t:TypeId) (hop:o.op=Op.makeSlice t l c) (e:TypeId) (k:IntKind) (bytes:Nat) (h1:P.underlying t=some (.slice e))
  (h2:(P.info? e).map (fun i=>(i.zero,i.size,i.bytes))=some (some (.int k 0),1,bytes))
  (kl kc:IntKind) (L C:Int) (n m:Nat) (hl:a.eval l=.int kl L) (hc:a.eval c=.int kc C) (hL:L=(n:Int)) (hC:C=(m:Int)) (hnm:n≤m) (b2:bytes*m≤281474976710656) (b3:m≤maxLen)
  (hK:∀w',OwnK k w' w.heap.size e (some ⟨w.heap.size,0,none⟩) n m (List.replicate n 0)→Below w.heap.size w w'→w'.heap.size=w.heap.size+1→wpList P ops Q rest (a.put o.dst (.slice (some ⟨w.heap.size,0,none⟩) n m)) w') :
  wpList P ops Q (o::rest) a w:=by
 obtain ⟨i,hi,hz,hs,hb⟩:=info_parts h2
 refine wpList_plain hg fun K hK'=>?_
 subst hL hC hb
 have h63:(m:Int)≤9223372036854775807:=by have:=b3;unfold maxLen at this;omega
 have hb':(i.bytes:Int)*(m:Int)≤281474976710656:=by
  have h:((i.bytes*m:Nat):Int)≤281474976710656:=by omega
  rwa [Int.natCast_mul] at h
 have hrun:=run_make (P:=P) w t e i _ h1 hi hz kl kc n m xq xq hb' h63
 unfold Oper.wp
 simp[execOp,hop,hl,hc,hrun,Result.andThen]
 have hblk:KBlk k (w.alloc (.cells (madeCells (Value.int k 0).cells (m*i.size)) e)) w.heap.size e (List.replicate m 0):=by
  unfold KBlk
  rw[heap_alloc_new,hs,Nat.mul_one]
  congr 2
  apply Array.ext'
  have h3:=toList_madeCells_one (.int k 0) m
  have h4:(Value.int k 0).cells=#[Value.int k 0]:=rfl
  rw[h4,h3]
  simp
 refine hK' _ _ (hK _ ⟨by simp,by simp,.inr ⟨w.heap.size,m,_,rfl,Nat.le_refl _,hblk,hnm,b3,by simp,by simp[List.take_replicate,Nat.min_eq_left hnm]⟩⟩ ((Below.refl _ _).alloc qyl _) zv)
end
namespace Nt
theorem bitLen_bitl {t:Nat} (h:t<4294967296):Lib.bitLen t=bitl t:=by
 rcases Nat.eq_zero_or_pos t with h0 | h0
 ·subst h0;rfl
 have hb:1≤Lib.bitLen t∧2^(Lib.bitLen t - 1)≤t∧t<2^Lib.bitLen t:=Lib.bitLenAux_bounds 64 t xq xq
 exact (bitl_unique xq hb.2.1 hb.2.2).symm
theorem bitl_le32 {t:Nat} (h:t<4294967296):bitl t≤32:=by
 rcases Nat.eq_zero_or_pos t with h0 | h0
 ·subst h0;decide
 have h1:=bitl_le h0
 have h3:2^(bitl t - 1)<2^32:=by omega
 have:=(Nat.pow_lt_pow_iff_right (show 1<2 by omega)).1 h3
 omega
end Nt
theorem BitLen_any (A:Option Addr) (n c:Nat) (a:List Int) (w:World) (ha:SlR .u32 w A n c a) (da:Dig a) (hn:n≤1000000000) :
  qyc 138 #[.slice A n c] w fun e w'=>e=.returned (.int .i64 (bitl (Nt.val a).toNat))∧w'=w:=by
 have lx:(strip a).length≤n:=by rw[← ha.1];exact zyi a
 have hx:=ha.upto (m:=(strip a).length) lx
 rw[← strip_take] at hx
 have hcut:=zwj A n c a w ha
 have eN:=zxs da
 rw[eN] at hx lx hcut
 generalize hX:(Nt.val a).toNat=X at *
 obtain ⟨N,hN⟩:∃N,N=(digits X).length:=⟨_,rfl⟩
 rw[← hN] at hx lx hcut
 clear eN hX
 rcases N with _ | k
 ·have h0:Hid (bitl X=0):=by
   have:X=0:=by
    rcases Nat.eq_zero_or_pos X with h | h
    ·exact h
    have:=zwn h;omega
   show _=_
   rw[this];rfl
  clear ha da
  go_enter Tryz.func138,Tryz.ntmps138
  go_wp2_with fail
  refine hcut.mono ?_
  rintro e w1 ⟨rfl,rfl⟩
  go_wp2
  go_ret
  exact ⟨by rw[h0.out];rfl,rfl⟩
 obtain ⟨b,o,rfl,_,hc⟩:=hx.pos (i:=k) xq
 have hcm:=hx.2.1
 have ht:=(zyk X).at k
 have hne:=norm_last (k:=k) (zxn X) hN.symm
 obtain ⟨t,aa⟩:∃t:Nat,(digits X)[k]?.getD 0=(t:Int):=⟨((digits X)[k]?.getD 0).toNat,by omega⟩
 have hfin:=bitl_digits hN.symm aa xq
 rw[aa] at hc hne ht
 have Hfin:=Lib.hid hfin
 have HN:=Lib.hid hN
 have hkb:((k:Int)+1==0)=false:=by rw[beq_eq_false_iff_ne];omega
 have hb32:=bitl_le32 (t:=t) xq
 have hbe:=bitLen_bitl (t:=t) xq
 clear hfin aa hx ha da hN
 go_enter Tryz.func138,Tryz.ntmps138
 go_wp2_with fail
 refine hcut.mono ?_
 rintro e w1 ⟨rfl,rfl⟩
 go_wp2_with fail
 refine (Len32_any (t:Int) _ xq xq).mono ?_
 rintro e w1 ⟨rfl,rfl⟩
 rw[Int.toNat_natCast,hbe]
 generalize bitl t=bt at *
 go_wp2
 go_ret
 exact ⟨by rw[Hfin.out];refine congrArg (fun z:Int=>Ending.returned (.int .i64 z)) ?_;omega,rfl⟩
section
variable {P:Program} {ops:Array Oper} {w0:Base} {u0:World} {S:St} {u u' w:World} {o:Oper} {p:List Tmp} {seq:Bool} {rest:List (Oper×List Tmp)} {K:St→World→Prop}
theorem sy_conv (d:Tmp) {src dst:TypeId} {x:Operand} {k0 k:IntKind} {n:Int} (v:Int) (hT:∀w,(convert src dst (.int k0 n)).run P w=.ok (.int k (k.wrap n)) w) (hv:k.wrap n=v) (kk:sym P ops w0 u0 seq rest (S.set d (.v (.int k v))) u K) (hw:Wants ops o S:=by exact zwf xj) (hd:o.dst=some d:=by kernel_rfl) (hop:o.op=.convert src dst x:=by rfl) (hf:freeB S d=true:=by kernel_rfl)
  (hx:evO S x=some (.v (.int k0 n)):=by rfl):sym P ops w0 u0 seq ((o,p)::rest) S u K:=by
 subst hv
 refine .inl ⟨by rw[hop];exact (by decide:(0:Nat)≠2),.set (.v (.int k (k.wrap n))),⟨zxy hd hf,.inl ⟨(fun t ht=>by cases ht),fun B a w u' hr he hdt=>⟨hw B a hr,?_⟩⟩⟩,?_⟩
 ·have e1:(execOp a.eval o).run P w=(do pure (Next.value (← convert src dst (a.eval x))):Sem Next).run P w:=by unfold execOp;rw[hop]
  rw[e1,ev_eval hr hx]
  exact run_val (hT w)
 show sym P ops w0 u0 seq rest (S.put o.dst (some _)) u K
 rw[hd];exact kk
end
section
variable {u u':World} {A:Option Addr} {n c i:Nat} {l:List Int} {k:IntKind}
theorem ints_at (h:SlR k u A n c l) (hi:i<n):∃b o,A=some ⟨b,o,none⟩∧u.cell? ⟨b,o+i*1,none⟩=some (.int k (l.getD i 0)):=by
 obtain ⟨h1,h2,h3,h4⟩:=h
 obtain ⟨b,o,e,_,hc⟩:=h4 xq
 exact ⟨b,o,e,by rw[Nat.mul_one];exact hc i hi⟩
theorem ints_bd {lo hi:Int} (h:∀z∈l,lo≤z∧z≤hi) (h0:lo≤0∧0≤hi) (i:Nat):lo≤l.getD i 0∧l.getD i 0≤hi:=by
 rw[qyg]
 cases e:l[i]? with
 | none=>exact h0
 | some z=>exact h z (List.mem_of_getElem? e)
end
theorem own_strip {w0 w:World} {B:Nat} {A:Option Addr} {n c:Nat} {l:List Int} (h:OwnK .u32 w B 79 A n c l) (hd:Dig l) (hB:w0.heap.size≤B):NatF w0 w A (strip l).length c (Nt.val l).toNat:=by
 have e:=zxs hd
 have hl:=zyi l
 have h1:=h.1
 have hx:=h.slr.upto (m:=(strip l).length) xq
 rw[← strip_take,e] at hx
 refine ⟨by rw[e],by rw[e];exact hx,fun hp=>?_⟩
 obtain ⟨a,ha,hb,ht⟩:=h.ty xq
 exact ⟨a,ha,by omega,ht⟩
theorem Nt.raise_val {q s:Nat} {a S:List Int} (hq:q=s / 32) (h:Nt.val S=Nt.val a*2^(s%32)):Nt.val (List.replicate q 0++S)=Nt.val a*2^s:=by
 rw[val_append,val_repl,h,p2_pw s,← hq]
 simp
 rw[Int.mul_comm,Int.mul_assoc]
theorem Nt.bitl_le_len (l:List Int) (h:Dig l):bitl (Nt.val l).toNat≤32*l.length:=by
 rcases Nat.eq_zero_or_pos (Nt.val l).toNat with h0 | h0
 ·rw[h0];exact Nat.zero_le _
 have h1:=val_lt h
 rw[pw_two] at h1
 have h2:=bitl_le h0
 have h3:2^(bitl (Nt.val l).toNat - 1)<2^(32*l.length):=by omega
 have:=(Nat.pow_lt_pow_iff_right (show 1<2 by omega)).1 h3
 omega
theorem Nt.dl_shift {N K s:Nat} (h:dl N≤K):dl (N*2^s)≤K+s / 32+1:=by
 apply dl_le
 have h1:=dl_lt (x:=N)
 have h2:=pw_mono h
 rw[pw_two] at h1 ⊢
 rw[pw_two,pw_two] at h2
 have h3:N<2^(32*K):=by omega
 have h4:N*2^s<2^(32*K)*2^s:=Nat.mul_lt_mul_of_pos_right h3 (Nat.pow_pos xq)
 rw[← Nat.pow_add] at h4
 have h5:2^(32*K+s)≤2^(32*(K+s / 32+1)):=Nat.pow_le_pow_right xq xq
 have h6:=Nat.lt_of_lt_of_le h4 h5
 exact_mod_cast h6
theorem raise_any (A:Option Addr) (n c s:Nat) (a:List Int) (w:World) (ha:SlR .u32 w A n c a) (da:Dig a) (hn:n≤1000000000) (hs:s≤65536) :
  qyc 139 #[.slice A n c,.int .i64 s] w fun e w'=>∃A' n' c',e=.returned (.slice A' n' c')∧NatF w w' A' n' c' (Nt.val a*2^s).toNat∧Below w.heap.size w w':=by
 rcases Nat.eq_zero_or_pos n with h0 | h0
 ·subst h0
  have hz:Hid ((Nt.val a*2^s).toNat=0):=by
   have e1:a=[]:=List.eq_nil_of_length_eq_zero ha.1
   show _=_
   rw[e1];simp[Nt.val]
  clear da ha
  go_enter Tryz.func139,Tryz.ntmps139
  go_wp2
  go_ret
  refine ⟨none,0,0,rfl,?_,Below.refl _ _⟩
  rw[hz.out]
  exact ⟨by rw[zxb];rfl,by rw[zxb];exact SlR.nil _ _ _ (Nat.zero_le _),fun h=>absurd h xq⟩
 have hn0:((n:Int)==0)=false:=by rw[beq_eq_false_iff_ne];omega
 obtain ⟨q,hq1,hq2⟩:∃q,32*q≤s∧s<32*q+32:=⟨s / 32,by omega,by omega⟩
 have hqs:Hid (q=s / 32):=by show _=_;omega
 have ab:s%32<32:=by omega
 have Hda:=Lib.hid da
 clear da
 go_enter Tryz.func139,Tryz.ntmps139
 go_wp2_with (at_make;refine wpList_makeKC _ rfl (.tmp 10) (.tmp 16) _ rfl 79 .u32 4 Tryz.underlying24 zxk _ _ _ _ q (q+n+1) rfl rfl ?L ?C ?nm ?b2 ?b3 ?_)
 case L=>show _=_;omega
 case C=>show _=_;omega
 case nm=>omega
 case b2=>omega
 case b3=>unfold maxLen;omega
 intro w2 af ac ah
 have hx2:=ha.below ac
 have HB2:=Lib.hid ac
 clear ah ac ha
 go_wp2_with fail
 refine (lift_any A n c (s%32) (n+1) a w2 hx2 Hda.out hn ab (.inr rfl)).mono ?_
 rintro e w3 ⟨g,rfl,⟨S,lo,hg,hk,hSl,hSd,hlo,hlo0,hv⟩,aa⟩
 have hlo0:=hlo0 rfl
 rw[hlo0] at hv
 have hval:=raise_val hqs.out (a:=a) (S:=S) xq
 have hs3:=Lib.hid (hk.slr_all (n:=n+1) (c:=n+1) hSl qyl yv)
 have hk3:=Lib.hid (af.below aa)
 have Hval:=Lib.hid hval
 have Hd:=Lib.hid (Dig.append (Dig.repl q) hSd)
 have ad:Hid (Below w.heap.size w w3):=HB2.out.trans (aa.mono HB2.out.size)
 have hw3:=ad.out.size
 clear hval hv hk hg af hlo hlo0 hSl hSd hx2 aa
 go_wp2_with (at_builtin;refine zxi _ rfl (.tmp 18) (.tmp 26) _ rfl 79 .u32 4 Tryz.underlying24 zxk w.heap.size (some ⟨w.heap.size,0,none⟩) q (q+n+1) (List.replicate q 0) rfl ?own (some ⟨g,0,none⟩) (n+1) (n+1) S rfl ?slr ?h63 ?hby ?hbase ?_)
 case own=>exact hk3.out
 case slr=>exact hs3.out
 case h63=>unfold maxLen;omega
 case hby=>omega
 case hbase=>omega
 intro A3 c3 w4 ho ae
 have HO:=Lib.hid ho
 have ag:Hid (Below w.heap.size w w4):=ad.out.trans ae
 clear hs3 hk3 ho ae
 go_wp2_with fail
 refine (zwj _ _ _ _ _ HO.out.slr).mono ?_
 rintro e w5 ⟨rfl,rfl⟩
 go_wp2
 go_ret
 have hf:=own_strip HO.out Hd.out qyl
 rw[Hval.out] at hf
 exact ⟨_,_,_,rfl,hf,ag.out⟩
theorem Shift_pos (A:Option Addr) (n c s:Nat) (a:List Int) (w:World) (ha:SlR .u32 w A n c a) (da:Dig a) (hn:n≤1000000000) (hs:s≤65536) :
  qyc 85 #[.slice A n c,.int .i64 s] w fun e w'=>∃A' n' c',e=.returned (.slice A' n' c')∧NatF w w' A' n' c' (Nt.val a*2^s).toNat∧Below w.heap.size w w':=by
 have lx:(strip a).length≤n:=by rw[← ha.1];exact zyi a
 have hx:=ha.upto (m:=(strip a).length) lx
 rw[← strip_take] at hx
 have hd:=strip_dig da
 have hv:=zwm a
 have hsd:decide (65536<(s:Int))=false:=by simp;omega
 have hbl:=bitl_le_len (strip a) hd
 have hraise:=raise_any A (strip a).length c s (strip a) w hx hd xq hs
 have hbit:=BitLen_any A (strip a).length c (strip a) w hx hd xq
 rw[hv] at hraise hbit hbl
 have hz:bitl (Nt.val a).toNat=0→Nt.val a=0:=fun h=>by
  have h1:=bitl_lt (Nt.val a).toNat
  have h2:=zxd da
  rw[h] at h1
  simp at h1
  omega
 generalize bitl (Nt.val a).toNat=B at *
 have hcut:=zwj A n c a w ha
 generalize (strip a).length=m at *
 by_cases h0:(s:Int) ≤ -(B:Int)
 ·have ab:Hid ((Nt.val a*2^s).toNat=0):=by
   show _=_
   rw[hz xq];simp
  have hle:decide ((s:Int) ≤ -(B:Int))=true:=decide_eq_true h0
  clear hx ha hd hv hraise hz h0
  go_enter Tryz.func85,Tryz.ntmps85
  go_wp2_with fail
  refine hcut.mono ?_
  rintro e w1 ⟨rfl,rfl⟩
  go_wp2_with fail
  refine hbit.mono ?_
  rintro e w1 ⟨rfl,rfl⟩
  go_wp2
  go_ret
  refine ⟨none,0,0,rfl,?_,Below.refl _ _⟩
  rw[ab.out]
  exact ⟨by rw[zxb];rfl,by rw[zxb];exact SlR.nil _ _ _ (Nat.zero_le _),fun h=>absurd h xq⟩
 have hle:decide ((s:Int) ≤ -(B:Int))=false:=decide_eq_false h0
 clear hx ha hd hv hz
 go_enter Tryz.func85,Tryz.ntmps85
 go_wp2_with fail
 refine hcut.mono ?_
 rintro e w1 ⟨rfl,rfl⟩
 go_wp2_with fail
 refine hbit.mono ?_
 rintro e w1 ⟨rfl,rfl⟩
 go_wp2_with fail
 refine hraise.mono ?_
 rintro e w1 ⟨A1,n1,c1,rfl,f1,aa⟩
 have F1:=Lib.hid f1
 clear f1
 go_wp2
 go_ret
 exact ⟨A1,n1,c1,rfl,F1.out,aa⟩
theorem k_natShift {u w:World} {x:Sl} {N K s:Nat} (d:Dat u w) (h1:NatV u x N K) (hK:K≤500000000) (hs:s≤65536):qyc 85 #[x.v,.int .i64 (s:Int)] w (Post u w fun v u'=>∃x:Sl,v=x.v∧NatN u' x (N*2^s) (K+s / 32+1)):=by
 have hs1:=h1.size
 obtain ⟨a,a1,a2,a3,a4⟩:=h1
 refine (Shift_pos _ _ _ _ _ _ (a1.ext d.ext) a2 xq hs).mono fun e w' ⟨A',n',c',h⟩=>?_
 rw[a4] at h
 exact post_nat d (nat_fits h (by simp[Int.natCast_mul,Int.natCast_pow])) (dl_shift hs1)
theorem k_rnShift {u w:World} {x:Sl} {N K s:Nat} (d:Dat u w) (h1:NatV u x N K) (hK:K≤500000000) (hs:s≤65536):qyc 152 #[x.v,.int .i64 (s:Int)] w (Post u w fun v u'=>∃x:Sl,v=x.v∧NatN u' x (N*2^s) (K+s / 32+1)):=by
 have hs1:=h1.size
 obtain ⟨a,a1,a2,a3,a4⟩:=h1
 refine (rShift_pos _ _ _ _ _ _ (a1.ext d.ext) a2 xq hs).mono fun e w' ⟨A',n',c',h⟩=>?_
 rw[a4] at h
 exact post_nat d (nat_fits ⟨h.1,h.2.1.nat,h.2.2⟩ (by simp[Int.natCast_mul,Int.natCast_pow])) (dl_shift hs1)
theorem k_intDivP {u w:World} {i1:IL} {y:Sl} {zN:Int} {M K L:Nat} (d:Dat u w) (hi:IntV u i1 zN K) (hy:NatV u y M L) (hM:0<M) (hK:K≤100000000) (hL:L≤100000000):qyc 180 #[i1.v,.agg #[.bool false,y.v]] w (Post u w fun v u'=>∃i j:IL,v=.tuple #[i.v,j.v,.int .i64 0]∧IntN u' i (zN / (M:Int)) (K+1)∧IntN u' j (zN%(M:Int)) L):=by
 have hL1:1≤L:=by have h2:=hy.size;have h3:=dl_mono (x:=M) (y:=1) xq;rw[dl_one] at h3;omega
 obtain ⟨N,hN,hzN⟩:=hi
 refine zzm Tryz.func180 rfl Tryz.ntmps180 Tryz.results180 d ?_
 refine sq9 (zzk 2 ⟨26,i1.cs⟩ (zzk 3 ⟨26,[.bool false,y.v]⟩ (zzk 4 ⟨26,[.bool false,qyn]⟩ (zzk 5 ⟨26,[.bool false,qyn]⟩ (zza 6 (zI 0) (zzb (sq9 (zza 11 (.adr 2 1) (zzi 12 (.v (i1.m.v)) ty24 zzl (zza 13 (.adr 3 1) (zzi 14 (.v (y.v)) ty24 zzl ?_)))))))))))
 refine zzg 15 86 _ fun _ _ ak aN=>qym (k_natDivMod aN (hN.ext ak) (hy.ext ak) hM xq xq) ?_
 rintro _ u16 aQ ⟨ac,aa,rfl,an,ad⟩
 refine zza 10 (.v (.tuple #[ac.v,aa.v,.int .i64 0])) (zza 16 (.v (ac.v)) (zza 17 (.v (aa.v)) (zza 18 (zI 0) (zza 7 (.v (ac.v)) (zza 8 (.v (aa.v)) (zza 9 (zI 0) (zzb (zzd (sq9 (zza 19 (zI 0) (zza 20 (zB false) ?_)))))))))))
 refine zzb (zys xj (zzs (zzp ?_)))
 refine zzd (sq9 (zza 24 (.adr 2 0) (zzi 25 (zB i1.s) ty4 zzl ?_)))
 rcases Bool.eq_false_or_eq_true i1.s with hs19 | hs19
 ·refine qbi 26 hs19 (zza 27 (.v (aa.v)) ?_ (hw:=w1 2 true 26))
  refine zza 28 (zI aa.n) ?_ (hw:=w1 2 true 26)
  refine zza 29 (zB (decide ((0:Int)<(aa.n:Int)))) ?_ (hw:=w1 2 true 26)
  refine zza 30 (zB (decide ((0:Int)<(aa.n:Int)))) (zzb (zzu (b:=decide ((0:Int)<(aa.n:Int))) xj (fun ab=>?_) (fun ab=>?_)))
  ·have qhb20:=qyt ab
   refine sq9 (zza 31 (.v (ac.v)) (zxx 32 ⟨79,[.int .u32 1]⟩ 1 (fun b21 u22 am a3=>?_)))
   refine zzg 33 133 _ fun _ _ ae aP=>qym (k_natAdd aP (an.ext (am.trans ae)).raw ((one_data a3).ext ae).raw xq xq) ?_
   rintro _ u28 aw ⟨aq,rfl,aR⟩
   refine zza 7 (.v (aq.v)) (zzb (zzf (zza 34 (.adr 3 1) (zzi 35 (.v (y.v)) ty24 zzl (zza 36 (.v (aa.v)) (zzg 37 134 _ fun _ _ ao aS=>qym (k_natSub aS (hy.ext (ak.t (aQ.t (am.t (ae.t (aw.t ao)))))) (ad.ext (am.t (ae.t (aw.t ao)))).raw xq xq) ?_))))))
   rintro _ u34 aX ⟨aj,rfl,aV⟩
   refine zza 8 (.v (aj.v)) (zzc 47 [(2,.adr 2 0),(3,.adr 3 0),(4,.adr 4 0),(5,.adr 5 0),(7,.v (aq.v)),(8,.v (aj.v))] [(2,⟨26,i1.cs⟩),(3,⟨26,[.bool false,y.v]⟩),(4,⟨26,[.bool false,qyn]⟩),(5,⟨26,[.bool false,qyn]⟩)] (sq9 (zza 38 (.adr 2 0) (zzi 39 (zB i1.s) ty4 zzl (zza 40 (.adr 3 0) (zzi 41 (zB false) ty4 zzl (zza 42 (zB (!(i1.s==false))) (zza 43 (.v (aq.v)) (zzg 44 128 _ fun _ _ aA aJ=>qym (k_signed aJ (s := !(i1.s==false)) (aR.ext (ao.t (aX.t aA)))) ?_)))))))))
   rintro _ u40 aY ⟨ap,rfl,aF⟩
   refine zza 45 (.v (aj.v)) (zzg 46 128 _ fun _ _ aB aK=>qym (k_signed aK (s:=false) (aV.ext (aA.t (aY.t aB)))) ?_)
   rintro _ u46 aM ⟨al,rfl,aH⟩
   refine zzj ⟨26,ap.cs⟩ ty26 ?_
   refine zzj ⟨26,al.cs⟩ ty26 ?_
   refine zza 6 (zI 0) (zzb (zzo (ret0 [ap.v,al.v,.int .i64 0] ⟨zzr ty26 zze,zzr ty26 zze,zzq,trivial⟩ fun u49 ar=>?_)))
   have hrp:=ad.pos
   have e9:=hs19
   have key:=rdiv1 (N:=N) hM xq
   have g1:=(aF.ext (aB.t (aM.t ar)))
   have g2:=(aH.ext ar)
   rw[e9] at g1
   rw[e9] at hzN
   have hK1:1≤K:=by have h2:=hN.size;have h3:=(dl_pos (x:=N)).2 (by rcases Nat.eq_zero_or_pos N with e | e;(rw[e,Nat.zero_mod] at hrp;omega);exact e);omega
   rw[hzN]
   refine ⟨ap,al,rfl,IntN.more (K:=(max K 1+1)) ?_ xq,IntN.more (K:=L) ?_ xq⟩
   ·rw[key.1];exact g1
   rw[key.2];exact g2
  have qhb20:=qyf ab
  refine zzs (zzp ?_)
  refine sq9 (zza 38 (.adr 2 0) (zzi 39 (zB i1.s) ty4 zzl (zza 40 (.adr 3 0) (zzi 41 (zB false) ty4 zzl (zza 42 (zB (!(i1.s==false))) (zza 43 (.v (ac.v)) (zzg 44 128 _ fun _ _ aD aZ=>qym (k_signed aZ (s := !(i1.s==false)) (an.ext aD)) ?_)))))))
  rintro _ u54 a0 ⟨ag,rfl,aW⟩
  refine zza 45 (.v (aa.v)) (zzg 46 128 _ fun _ _ av aE=>qym (k_signed aE (s:=false) (ad.ext (aD.t (a0.t av)))) ?_)
  rintro _ u60 aG ⟨ai,rfl,aL⟩
  refine zzj ⟨26,ag.cs⟩ ty26 ?_
  refine zzj ⟨26,ai.cs⟩ ty26 ?_
  refine zza 6 (zI 0) (zzc 47 [(4,.adr 4 0),(5,.adr 5 0),(6,zI 0)] [(4,⟨26,ag.cs⟩),(5,⟨26,ai.cs⟩)] (zzo (ret0 [ag.v,ai.v,.int .i64 0] ⟨zzr ty26 zze,zzr ty26 zze,zzq,trivial⟩ fun u63 au=>?_)))
  have hrp:=ad.pos
  have key:=rdiv0 (s:=i1.s) (N:=N) hM (by rintro ⟨k1,k2⟩;omega)
  have g1:=(aW.ext (av.t (aG.t au)))
  have g2:=(aL.ext au)
  rw[hzN]
  refine ⟨ag,ai,rfl,IntN.more (K:=K) ?_ xq,IntN.more (K:=L) ?_ xq⟩
  ·rw[key.1];exact g1
  rw[key.2];exact g2
 refine qbi 26 hs19 (zzn 27 (uw 2 true false 26) (zzn 28 (uw 2 true false 26) (zzn 29 (uw 2 true false 26) (zza 30 (zB false) (zzb (zys xj (zzs (zzp ?_))))))))
 refine sq9 (zza 38 (.adr 2 0) (zzi 39 (zB i1.s) ty4 zzl (zza 40 (.adr 3 0) (zzi 41 (zB false) ty4 zzl (zza 42 (zB (!(i1.s==false))) (zza 43 (.v (ac.v)) (zzg 44 128 _ fun _ _ ay a1=>qym (k_signed a1 (s := !(i1.s==false)) (an.ext ay)) ?_)))))))
 rintro _ u68 a2 ⟨af,rfl,aI⟩
 refine zza 45 (.v (aa.v)) (zzg 46 128 _ fun _ _ ax aU=>qym (k_signed aU (s:=false) (ad.ext (ay.t (a2.t ax)))) ?_)
 rintro _ u74 aT ⟨ah,rfl,aO⟩
 refine zzj ⟨26,af.cs⟩ ty26 ?_
 refine zzj ⟨26,ah.cs⟩ ty26 ?_
 refine zza 6 (zI 0) (zzc 47 [(4,.adr 4 0),(5,.adr 5 0),(6,zI 0)] [(4,⟨26,af.cs⟩),(5,⟨26,ah.cs⟩)] (zzo (ret0 [af.v,ah.v,.int .i64 0] ⟨zzr ty26 zze,zzr ty26 zze,zzq,trivial⟩ fun u77 aC=>?_)))
 have hrp:=ad.pos
 have key:=rdiv0 (s:=i1.s) (N:=N) hM (by rintro ⟨k1,k2⟩;rw[k1] at hs19;exact absurd hs19 yq)
 have g1:=(aI.ext (ax.t (aT.t aC)))
 have g2:=(aO.ext aC)
 rw[hzN]
 refine ⟨af,ah,rfl,IntN.more (K:=K) ?_ xq,IntN.more (K:=L) ?_ xq⟩
 ·rw[key.1];exact g1
 rw[key.2];exact g2
theorem k_double {u w:World} {i:IL} {z:Int} {K s:Nat} (d:Dat u w) (hi:IntV u i z K) (hK:K≤100000000) (hs:s≤65536):qyc 212 #[i.v,.int .i64 (s:Int)] w (Post u w fun v u'=>∃y:Sl,v=.agg #[.bool i.s,y.v]∧IntV u' ⟨i.s,y⟩ (z*((2^s:Nat):Int)) (K+s / 32+1)):=by
 refine zzm Tryz.func212 rfl Tryz.ntmps212 Tryz.results212 d ?_
 refine sq9 (zzk 2 ⟨26,i.cs⟩ (zzk 4 ⟨26,[.bool false,qyn]⟩ (zzb (zzd (zzz [0,1,0,4,0,28,63,127] [(0,[]),(1,[]),(2,[]),(3,[]),(4,[]),(5,[]),(6,[]),(7,[])] xj xj (zza 5 (.adr 2 0) (zzi 6 (zB i.s) ty4 zzl (zza 7 (.adr 2 1) (zzi 8 (.v (i.m.v)) ty24 zzl (zza 9 (zI s) (zzg 10 85 _ fun _ _ af ac=>qym (k_natShift (s:=s) ac ((IntV.abs hi).ext af) xq xq) ?_)))))))))))
 rintro _ u14 g15 ⟨aa,rfl,ae⟩
 refine zza 11 (.v (.agg #[.bool i.s,aa.v])) (zzj ⟨26,[.bool i.s,aa.v]⟩ ty26 ?_)
 refine zzb (zzo (ret0 [.agg #[.bool i.s,aa.v]] ⟨zzr ty26 zze,trivial⟩ fun u17 ad=>?_))
 obtain ⟨N9,hN9,ab⟩:=hi
 refine ⟨aa,rfl,?_⟩
 rw[ab,← sg_mulN]
 have h9:=IntV.same (s:=i.s) (ae.ext ad).raw
 rw[ab] at h9
 exact h9
theorem k_onGrid {u w:World} {i:IL} {y:Sl} {z:Int} {D K L s:Nat} (d:Dat u w) (hi:IntV u i z K) (hy:NatV u y D L) (hD:0<D) (hK:K≤10000000) (hL:L≤10000000) (hs:s≤65536):qyc 211 #[i.v,y.v,.int .i64 (s:Int)] w (Post u w fun v u'=>∃r:RL,v=r.v∧RatN u' r (mkRat (z / (D:Int)) (2^s)) (K+s / 32+3)):=by
 have ak:0<1*2^s:=by rw[Nat.one_mul];exact Nat.pow_pos yq
 refine zzm Tryz.func211 rfl Tryz.ntmps211 Tryz.results211 d ?_
 refine sq9 (zzk 3 ⟨26,i.cs⟩ (zzk 6 ⟨28,zw3⟩ (zzb (zzd (zzz [0,0,2,7,15,31,31,31,0,0,831,1919,4095] [(0,[]),(1,[]),(8,[]),(9,[]),(2,[]),(3,[]),(4,[]),(5,[]),(6,[]),(7,[]),(10,[]),(11,[]),(12,[])] xj xj (zzi 11 (.v (i.v)) ty26 zze (zza 12 (.v (y.v)) (zzk 7 ⟨26,[.bool false,qyn]⟩ (zzk 8 ⟨26,[.bool false,qyn]⟩ (zzg 13 76 _ fun _ _ af am=>qym (k_natural (x:=y) am) ?_))))))))))
 rintro _ u12 ah rfl
 refine zzg 14 180 _ fun _ _ aj an=>qym (k_intDivP an (hi.ext (af.t (ah.t aj))) (hy.ext (af.t (ah.t aj))) hD xq xq) ?_
 rintro _ u20 g21 ⟨ab,ac,rfl,al,h19⟩
 refine zza 10 (.v (.tuple #[ab.v,ac.v,.int .i64 0])) (zza 15 (.v (ab.v)) (zza 16 (.v (ac.v)) (zza 17 (zI 0) (zzj ⟨26,ab.cs⟩ ty26 ?_))))
 refine zzj ⟨26,ac.cs⟩ ty26 ?_
 refine zza 9 (zI 0) (zzb (zzd (zzz [0,0,0,6,15,31,63] [(0,[]),(1,[]),(2,[]),(3,[19]),(4,[]),(5,[]),(6,[])] xj xj (zzi 18 (.v (ab.v)) ty26 zze (sy_lit 19 ⟨79,[.int .u32 1]⟩ 1 ?_)))))
 refine zza 20 (zI s) (zyo 21 85 [.slc 19 0 1 1,zI s] [19] (.inr rfl) (pub_mk xw) (k:=?_))
 intro ad w23 av ao aw ax
 have ag:av.heap[ad 19]? = some (.cells #[.int .u32 1] 79 (0,0)):=ax 19 zv _ rfl
 obtain ⟨b24,aa⟩:∃b,ad 19=b:=⟨_,rfl⟩
 rw[aa] at ag
 show Calls _ _ #[.slice (some ⟨ad 19,0,none⟩) 1 1,.int .i64 (s:Int)] _ _
 rw[aa]
 have k30:=k_natShift (s:=s) aw (one_data ag).raw xq xq
 with_reducible refine zPm k30 ?_
 rintro _ u28 aq ⟨ay,rfl,ap⟩
 refine zza 22 (.v (.agg #[.bool ab.s,ab.m.v,ay.v])) (zzg 23 78 _ fun _ _ ai ar=>qym (k_lowest ar (al.ext (ao.t (aq.t ai))).raw (ap.ext ai).raw ak xq xq) ?_)
 rintro _ u34 g35 ⟨ae,rfl,au⟩
 refine zzj ⟨28,ae.cs⟩ ty28 ?_
 refine zzb (zzo (ret0 [ae.v] ⟨zzr ty28 zze,trivial⟩ fun u37 aA=>?_))
 refine ⟨ae,rfl,RatN.more (K:=(max (K+1) (1+s / 32+1))) ?_ xq⟩
 have h9:=(au.ext aA)
 rw[Nat.one_mul] at h9
 exact h9
theorem k_downG {u w:World} {r:RL} {q:Rat} {K:Nat} {k:Nat} (hk:k≤256) (d:Dat u w) (hr:RatV u r q K) (hK:K≤1000000):qyc 203 #[r.v,.int .i64 (k:Int)] w (Post u w fun v u'=>∃p:RL,v=.tuple #[p.v,.int .i64 0]∧RatN u' p (dnQ q k) (K+20)):=by
 refine zzm Tryz.func203 rfl Tryz.ntmps203 Tryz.results203 d ?_
 refine sq9 (zzk 2 ⟨28,r.cs⟩ (zzk 4 ⟨28,zw3⟩ (zza 5 (zI 0) (zzb (zzd (sq9 (zza 7 (zI k) (zza 8 (zB (decide ((k:Int)<0))) (zyq 9 (x:=zB (decide ((k:Int)<0))) (zB false) (by rw[show (decide ((k:Int)<0))=false from decide_eq_false xq]) (zza 10 (zI k) ?_ (hw:=w1 2 false 9)))))))))))
 refine zza 11 (zB (decide ((256:Int)<(k:Int)))) ?_ (hw:=w1 2 false 9)
 refine zza 12 (zB (decide ((256:Int)<(k:Int)))) (zzb (zzu (b:=decide ((256:Int)<(k:Int))) xj (fun hb=>?_) (fun hb=>?_)))
 ·exact absurd hb (by rw[show (decide ((256:Int)<(k:Int)))=false from decide_eq_false xq];decide)
 clear hb
 refine zzs (zzp ?_)
 refine sq9 (zzi 14 (.v (r.v)) ty28 zze (zzg 15 73 _ fun _ _ an ap=>qym (k_read ap (hr.ext an)) ?_))
 rintro _ u14 g15 ⟨ab,ac,rfl,z13,D13,ag,ae,aa,af,al,ao⟩
 refine zzk 6 ⟨96,[.bool false,qyn,qyn,.bool false]⟩ (zzj ⟨96,ab.cs++[.bool ac]⟩ ty96 ?_)
 refine zzb (zzd (zzz [0,1,3,0,15,0,32,96,0,511,1023,2047] [(0,[]),(1,[]),(2,[]),(3,[]),(5,[]),(6,[]),(7,[]),(8,[]),(4,[]),(9,[]),(10,[]),(11,[])] xj xj (zza 16 (.adr 6 0) (zza 17 (.adr 6 0) (zzi 18 (.v (.agg #[.bool ab.s,ab.m.v])) ty26 zze (zza 19 (zI k) (zza 21 (.adr 6 0) (zza 22 (.adr 6 2) (zzi 23 (.v (ab.d.v)) ty24 zzl (zza 24 (zI k) (zzg 20 212 _ fun _ _ ah ak=>qym (k_double (s:=k) ak (ag.ext ah) xq xq) ?_)))))))))))
 rintro _ u20 ar ⟨y18,rfl,au⟩
 refine zzg 25 211 _ fun _ _ ai aq=>qym (k_onGrid (s:=k) aq (au.ext ai) (ae.ext (ah.t (ar.t ai))) aa xq xq xq) ?_
 rintro _ u26 g27 ⟨ad,rfl,am⟩
 refine zzj ⟨28,ad.cs⟩ ty28 ?_
 refine zza 5 (zI 0) (zzb (zzo (ret0 [ad.v,.int .i64 0] ⟨zzr ty28 zze,zzq,trivial⟩ fun u29 aj=>?_)))
 refine ⟨ad,rfl,RatN.more (K:=((K+k / 32+1)+k / 32+3)) ?_ xq⟩
 rw[af,dn_mk aa]
 exact (am.ext aj)
theorem k_upG {u w:World} {r:RL} {q:Rat} {K:Nat} {k:Nat} (hk:k≤256) (d:Dat u w) (hr:RatV u r q K) (hK:K≤1000000):qyc 204 #[r.v,.int .i64 (k:Int)] w (Post u w fun v u'=>∃p:RL,v=.tuple #[p.v,.int .i64 0]∧RatN u' p (-dnQ (-q) k) (K+20)):=by
 refine zzm Tryz.func204 rfl Tryz.ntmps204 Tryz.results204 d ?_
 refine sq9 (zzk 2 ⟨28,r.cs⟩ (zzk 4 ⟨28,zw3⟩ (zza 5 (zI 0) (zzb (sq9 (zzi 9 (.v (r.v)) ty28 zze (zzg 10 82 _ fun _ _ aj ad=>qym (k_flip (r:=r) ad) ?_)))))))
 rintro _ u12 af rfl
 refine zza 11 (zI k) (zzg 12 203 _ fun _ _ ai ae=>qym (k_downG (k:=k) xq ae ((flip_rat (hr.ext (aj.t af.ext))).ext ai) xq) ?_)
 rintro _ u18 g19 ⟨aa,rfl,ah⟩
 refine zza 8 (.v (.tuple #[aa.v,.int .i64 0])) (zza 13 (.v (aa.v)) (zza 14 (zI 0) (zzk 6 ⟨28,zw3⟩ (zzj ⟨28,aa.cs⟩ ty28 ?_))))
 refine zza 7 (zI 0) (zzb (zzd (sq9 (zza 15 (zI 0) (zza 16 (zB false) (zzb (zys xj (zzs (zzp ?_)))))))))
 refine sq9 (zzi 19 (.v (aa.v)) ty28 zze (zzg 20 145 _ fun _ _ ac ag=>qym (k_ratNeg ag (ah.ext ac).raw xq) ?_))
 rintro _ u24 g25 ⟨ab,rfl,ak⟩
 refine zzj ⟨28,ab.cs⟩ ty28 ?_
 refine zza 5 (zI 0) (zzb (zzo (ret0 [ab.v,.int .i64 0] ⟨zzr ty28 zze,zzq,trivial⟩ fun u27 al=>?_)))
 refine ⟨ab,rfl,RatN.more (K:=(K+20)) ?_ xq⟩
 exact (ak.ext al)
theorem k_unit {u w:World} {k:Nat} (d:Dat u w) (hk:k≤65536):qyc 95 #[.int .i64 (k:Int)] w (Post u w fun v u'=>∃r:RL,v=r.v∧RatN u' r (((2^k:Nat):Int):Rat) (k / 32+2)):=by
 refine zzm Tryz.func95 rfl Tryz.ntmps95 Tryz.results95 d ?_
 refine sq9 (zzk 2 ⟨28,zw3⟩ (zzb (sq9 (zxx 3 ⟨79,[.int .u32 1]⟩ 1 (fun b11 u12 e13 ae=>?_)))))
 refine zza 4 (zI k) (zzg 5 152 _ fun _ _ af ad=>qym (k_rnShift (s:=k) ad ((one_data ae).ext af).raw xq xq) ?_)
 rintro _ u18 g19 ⟨aa,rfl,ai⟩
 refine zza 6 (.v (.agg #[.bool false,aa.v])) (zxx 7 ⟨79,[.int .u32 1]⟩ 1 (fun ab u22 ag ah=>?_))
 refine zza 8 (.v (.agg #[.bool false,aa.v,.slice (some ⟨ab,0,none⟩) 1 1])) (zzj ⟨28,[.bool false,aa.v,.slice (some ⟨ab,0,none⟩) 1 1]⟩ ty28 ?_)
 refine zzb (zzo (ret0 [.agg #[.bool false,aa.v,.slice (some ⟨ab,0,none⟩) 1 1]] ⟨zzr ty28 zze,trivial⟩ fun u25 ac=>?_))
 refine ⟨(⟨false,aa,(⟨some ⟨ab,0,none⟩,1,1⟩:Sl)⟩:RL),rfl,?_⟩
 have h9:=whole_rat (nat_intN (ai.ext (ag.trans ac))) ((one_data ah).ext ac)
 rw[Nat.one_mul] at h9
 exact h9.more xq
theorem k_floor {u w:World} {r:RL} {q:Rat} {K:Nat} (d:Dat u w) (hr:RatV u r q K) (hK:K≤10000000):qyc 97 #[r.v] w (Post u w fun v u'=>∃i:IL,v=i.v∧IntN u' i (flr q) (K+1)):=by
 refine zzm Tryz.func97 rfl Tryz.ntmps97 Tryz.results97 d ?_
 refine sq9 (zzk 1 ⟨28,r.cs⟩ (zzk 2 ⟨26,[.bool false,qyn]⟩ (zzb (sq9 (zzi 9 (.v (r.v)) ty28 zze (zzg 10 53 _ fun _ _ am an=>qym (k_parts an (hr.ext am) xq) ?_))))))
 rintro _ u13 g14 ⟨ac,ad,z12,aj,rfl,ag,af,ab,ah,al⟩
 refine zza 8 (.v (.tuple #[ac.v,ad.v])) (zza 11 (.v (ac.v)) (zza 12 (.v (ad.v)) (zzk 3 ⟨26,[.bool false,qyn]⟩ (zzk 4 ⟨26,[.bool false,qyn]⟩ (zzj ⟨26,ac.cs⟩ ty26 ?_)))))
 refine zzj ⟨26,ad.cs⟩ ty26 ?_
 refine zzb (sq9 (zzi 14 (.v (ac.v)) ty26 zze (zzi 15 (.v (ad.v)) ty26 zze (zzg 16 62 _ fun _ _ ai ap=>qym (k_riDiv ap (ag.ext ai) (af.ext ai).raw (show ((aj:Nat):Int)≠0 by have h9:=ab;omega) xq xq) ?_))))
 rintro _ u21 g22 ⟨aa,ae,rfl,ao,h20⟩
 refine zza 13 (.v (.tuple #[aa.v,ae.v,.int .i64 0])) (zza 17 (.v (aa.v)) (zza 18 (.v (ae.v)) (zza 19 (zI 0) (zzk 5 ⟨26,[.bool false,qyn]⟩ (zzk 6 ⟨26,[.bool false,qyn]⟩ (zzj ⟨26,aa.cs⟩ ty26 ?_))))))
 refine zzj ⟨26,ae.cs⟩ ty26 ?_
 refine zza 7 (zI 0) (zzb (sq9 (zzi 20 (.v (aa.v)) ty26 zze (zzj ⟨26,aa.cs⟩ ty26 ?_))))
 refine zzb (zzo (ret0 [aa.v] ⟨zzr ty26 zze,trivial⟩ fun u24 ak=>?_))
 refine ⟨aa,rfl,IntN.more (K:=(K+1)) ?_ xq⟩
 rw[ah,flr_mk ab]
 exact (ao.ext ak)
theorem k_bad {u w:World} {n:Int} (d:Dat u w):qyc 207 #[.int .i64 n] w (Post u w fun v _=>v=.bool (decide (n<0∨256<n))):=by
 refine zzm Tryz.func207 rfl Tryz.ntmps207 Tryz.results207 d ?_
 refine sq9 (zza 2 (zB false) (zzb (sq9 (zza 3 (zI n) (zza 4 (zB (decide (n<0))) ?_)))))
 rcases Bool.eq_false_or_eq_true (decide (n<0)) with hs11 | hs11
 ·refine qbi 5 hs11 ?_
  have qhs11:=qyt hs11
  refine zzn 6 (uw 2 false true 5) (zzn 7 (uw 2 false true 5) (zza 8 (zB true) (zza 2 (zB true) (zzb (zzo (ret0 [.bool true] ⟨zzq,trivial⟩ fun u12 e13=>?_))))))
  show Value.bool _=Value.bool _
  congr 1
  symm
  exact decide_eq_true (.inl (qyt hs11))
 refine qbi 5 hs11 ?_
 have qhs11:=qyf hs11
 refine zza 6 (zI n) ?_ (hw:=w1 2 false 5)
 refine zza 7 (zB (decide ((256:Int)<n))) ?_ (hw:=w1 2 false 5)
 refine zza 8 (zB (decide ((256:Int)<n))) (zza 2 (zB (decide ((256:Int)<n))) (zzb (zzo (ret0 [.bool (decide ((256:Int)<n))] ⟨zzq,trivial⟩ fun u14 e15=>?_))))
 show Value.bool _=Value.bool _
 congr 1
 symm
 have h9:=qyf hs11
 by_cases h8:(256:Int)<n
 ·rw[decide_eq_true h8];exact decide_eq_true (.inr h8)
 rw[decide_eq_false h8];exact decide_eq_false xq
theorem k_rdown {u w:World} {r:RL} {q:Rat} {K k:Nat} (hk:k≤256) (d:Dat u w) (hr:RatV u r q K) (hK:K≤1000000):qyc 208 #[r.v,.int .i64 (k:Int)] w (Post u w fun v u'=>∃p:RL,v=p.v∧RatN u' p (dnQ q k) (K+40)):=by
 refine zzm Tryz.func208 rfl Tryz.ntmps208 Tryz.results208 d ?_
 refine sq9 (zzk 2 ⟨28,r.cs⟩ (zzk 4 ⟨28,zw3⟩ (zzb (sq9 (zza 6 (zI k) (zzg 7 95 _ fun _ _ ak am=>qym (k_unit (k:=k) am xq) ?_))))))
 rintro _ u14 al ⟨ac,rfl,ag⟩
 refine zzk 5 ⟨28,zw3⟩ (zzj ⟨28,ac.cs⟩ ty28 ?_)
 refine zzb (zzd (zzz [0,0,3,7,0,31,0,127,255] [(0,[]),(1,[]),(4,[]),(6,[]),(2,[]),(3,[]),(5,[]),(7,[12,13]),(8,[])] xj xj (zzi 8 (.v (r.v)) ty28 zze (zzi 9 (.v (ac.v)) ty28 zze (sy_lit 12 ⟨79,[.int .u32 1]⟩ 1 ?_)))))
 refine zzi 14 (.v (ac.v)) ty28 zze (zzg 10 15 _ fun _ _ ad ao=>qym (k_rqMul ao (hr.ext (ak.t (al.t ad))) (ag.ext ad).raw xq xq) ?_)
 rintro _ u20 ay ⟨r18,rfl,aA⟩
 refine zzg 11 97 _ fun _ _ ai aw=>qym (k_floor aw (aA.ext ai).raw xq) ?_
 rintro _ u26 ar ⟨ab,rfl,aq⟩
 refine zza 13 (.ags ab.cs 12 0 1 1) (zyo 15 98 [.ags ab.cs 12 0 1 1,.v (ac.v)] [12,13] (.inr rfl) (pub_mk xw) (k:=?_))
 intro ae w29 an ah ap av
 have aj:an.heap[ae 12]? = some (.cells #[.int .u32 1] 79 (0,0)):=av 12 zv _ rfl
 obtain ⟨b30,aa⟩:∃b,ae 12=b:=⟨_,rfl⟩
 rw[aa] at aj
 show Calls _ _ #[.agg #[.bool ab.s,.slice ab.m.a ab.m.n ab.m.c,.slice (some ⟨ae 12,0,none⟩) 1 1],ac.v] _ _
 rw[aa]
 have k36:=k_rqOver ap (rat_mk2 (s:=ab.s) (aq.ext ah).raw (one_data aj).raw) (ag.ext (ad.t (ay.t (ai.t (ar.t ah))))).raw xq xq
 with_reducible refine zPm k36 ?_
 rintro _ u34 g35 ⟨af,rfl,au⟩
 refine zzj ⟨28,af.cs⟩ ty28 ?_
 refine zzb (zzo (ret0 [af.v] ⟨zzr ty28 zze,trivial⟩ fun u37 ax=>?_))
 refine ⟨af,rfl,RatN.more (K:=((max (max ((K+(k / 32+2)+1)+1) 1) 1)+(k / 32+2)+2)) ?_ xq⟩
 unfold dnQ
 rw[Rat.mkRat_eq_div]
 have h9:=(au.ext ax)
 rw[mk_one] at h9
 exact h9
theorem k_rdownG {u w:World} {r:RL} {q:Rat} {K:Nat} {k:Nat} (hk:k≤256) (d:Dat u w) (hr:RatV u r q K) (hK:K≤1000000):qyc 191 #[r.v,.int .i64 (k:Int)] w (Post u w fun v u'=>∃p:RL,v=.tuple #[p.v,.int .i64 0]∧RatN u' p (dnQ q k) (K+60)):=by
 refine zzm Tryz.func191 rfl Tryz.ntmps191 Tryz.results191 d ?_
 refine sq9 (zzk 2 ⟨28,r.cs⟩ (zzk 4 ⟨28,zw3⟩ (zza 5 (zI 0) (zzb (zzd (sq9 (zza 6 (zI k) (zzg 7 207 _ fun _ _ ah ab=>qym (k_bad (n:=(k:Int)) ab) ?_))))))))
 rintro _ u12 ad rfl
 refine zzb (zzu (b:=decide ((k:Int)<0∨256<(k:Int))) xj (fun hb=>?_) (fun hb=>?_))
 ·exact absurd hb (by rw[show (decide ((k:Int)<0∨256<(k:Int)))=false from decide_eq_false xq];decide)
 clear hb
 refine zzs (zzp ?_)
 refine sq9 (zzi 9 (.v (r.v)) ty28 zze (zza 10 (zI k) (zzg 11 208 _ fun _ _ af ac=>qym (k_rdown (k:=k) xq ac (hr.ext (ah.t (ad.t af))) xq) ?_)))
 rintro _ u18 g19 ⟨aa,rfl,ae⟩
 refine zzj ⟨28,aa.cs⟩ ty28 ?_
 refine zza 5 (zI 0) (zzb (zzo (ret0 [aa.v,.int .i64 0] ⟨zzr ty28 zze,zzq,trivial⟩ fun u21 ag=>?_)))
 refine ⟨aa,rfl,RatN.more (K:=(K+40)) ?_ xq⟩
 exact (ae.ext ag)
theorem k_rupG {u w:World} {r:RL} {q:Rat} {K:Nat} {k:Nat} (hk:k≤256) (d:Dat u w) (hr:RatV u r q K) (hK:K≤1000000):qyc 192 #[r.v,.int .i64 (k:Int)] w (Post u w fun v u'=>∃p:RL,v=.tuple #[p.v,.int .i64 0]∧RatN u' p (-dnQ (-q) k) (K+60)):=by
 refine zzm Tryz.func192 rfl Tryz.ntmps192 Tryz.results192 d ?_
 refine sq9 (zzk 2 ⟨28,r.cs⟩ (zzk 4 ⟨28,zw3⟩ (zza 5 (zI 0) (zzb (zzd (sq9 (zza 6 (zI k) (zzg 7 207 _ fun _ _ ab ae=>qym (k_bad (n:=(k:Int)) ae) ?_))))))))
 rintro _ u12 aj rfl
 refine zzb (zzu (b:=decide ((k:Int)<0∨256<(k:Int))) xj (fun hb=>?_) (fun hb=>?_))
 ·exact absurd hb (by rw[show (decide ((k:Int)<0∨256<(k:Int)))=false from decide_eq_false xq];decide)
 clear hb
 refine zzs (zzp ?_)
 refine sq9 (zzi 9 (.v (r.v)) ty28 zze (zzg 10 59 _ fun _ _ am af=>qym (k_rqNeg af (hr.ext (ab.t (aj.t am))) xq) ?_))
 rintro _ u18 g19 ⟨r16,rfl,ac⟩
 refine zza 11 (zI k) (zzg 12 208 _ fun _ _ ai ag=>qym (k_rdown (k:=k) xq ag (ac.ext ai).raw xq) ?_)
 rintro _ u24 g25 ⟨r22,rfl,al⟩
 refine zzg 13 59 _ fun _ _ ak an=>qym (k_rqNeg an (al.ext ak).raw xq) ?_
 rintro _ u30 g31 ⟨aa,rfl,ad⟩
 refine zzj ⟨28,aa.cs⟩ ty28 ?_
 refine zza 5 (zI 0) (zzb (zzo (ret0 [aa.v,.int .i64 0] ⟨zzr ty28 zze,zzq,trivial⟩ fun u33 ah=>?_)))
 refine ⟨aa,rfl,RatN.more (K:=(K+40)) ?_ xq⟩
 exact (ad.ext ah)
namespace Nt
theorem lo_neg (a b:Rat):lo (-a) (-b) = -hi a b∧hi (-a) (-b) = -lo a b:=by unfold lo hi;grind
theorem lohi9 (x y:Rat):lo (lo x y) (hi x y)=lo x y∧hi (lo x y) (hi x y)=hi x y:=lo_of_le (lo_le_hi x y)
theorem sub_ends (a b:Rat) (x:Rat):x+lo (lo (-a) (-b)) (hi (-a) (-b))=x - hi a b∧x+hi (lo (-a) (-b)) (hi (-a) (-b))=x - lo a b:=by
 rw[(lohi9 _ _).1,(lohi9 _ _).2,(lo_neg a b).1,(lo_neg a b).2,Rat.sub_eq_add_neg,Rat.sub_eq_add_neg]
 exact ⟨rfl,rfl⟩
def rndO (x1 x2:Rat) (n:Int):Option (Rat×Rat):=if n<0∨256<n then none else some (dnQ (lo x1 x2) n.toNat,-dnQ (-hi x1 x2) n.toNat)
def rndE (n:Int):Int:=if n<0∨256<n then 1 else 0
end Nt
def OptI (u:World) (a b:RL) (o:Option (Rat×Rat)) (K:Nat):Prop:=match o with | none=>a=rl0∧b=rl0 | some (p,q)=>RatN u a p K∧RatN u b q K
theorem OptI.ext {u u':World} {a b:RL} {o:Option (Rat×Rat)} {K:Nat} (h:OptI u a b o K) (e:Ext u u'):OptI u' a b o K:=by
 cases o with
 | none=>exact h
 | some x=>exact ⟨h.1.ext e,h.2.ext e⟩
theorem k_r4neg {u w:World} {a1 a2:RL} {x1 x2:Rat} {K:Nat} (d:Dat u w) (ha1:RatV u a1 x1 K) (ha2:RatV u a2 x2 K) (hK:K≤4000000):qyc 194 #[IV a1 a2] w (Post u w fun v u'=>∃p q:RL,v=IV p q∧RatN u' p (Nt.lo (-x1) (-x2)) K∧RatN u' q (Nt.hi (-x1) (-x2)) K):=by
 refine zzm Tryz.func194 rfl Tryz.ntmps194 Tryz.results194 d ?_
 refine sq9 (zzk 1 ⟨57,a1.cs++a2.cs⟩ (zzk 2 ⟨57,zw6⟩ (zzb (zzd (zzz [0,1,3,0,8,31,63,127] [(0,[]),(1,[]),(3,[]),(4,[]),(2,[]),(5,[]),(6,[]),(7,[])] xj xj (zza 3 (.adr 1 0) (zzi 4 (.v (a1.v)) ty28 zze (zza 6 (.adr 1 3) (zzi 7 (.v (a2.v)) ty28 zze (zzg 5 59 _ fun _ _ ae ai=>qym (k_rqNeg ai (ha1.ext ae) xq) ?_))))))))))
 rintro _ u14 ah ⟨r12,rfl,ag⟩
 refine zzg 8 59 _ fun _ _ ad aj=>qym (k_rqNeg aj (ha2.ext (ae.t (ah.t ad))) xq) ?_
 rintro _ u20 an ⟨r18,rfl,ao⟩
 refine zzg 9 100 _ fun _ _ af am=>qym (k_r4Make am (ag.ext (ad.t (an.t af))).raw (ao.ext af).raw xq) ?_
 rintro _ u28 g29 ⟨aa,ab,rfl,ak,al⟩
 refine zzj ⟨57,aa.cs++ab.cs⟩ ty57 ?_
 refine zzb (zzo (ret0 [.agg #[.bool aa.s,aa.m.v,aa.d.v,.bool ab.s,ab.m.v,ab.d.v]] ⟨zzr ty57 zze,trivial⟩ fun u31 ac=>?_))
 refine ⟨aa,ab,rfl,RatN.more (K:=K) ?_ xq,RatN.more (K:=K) ?_ xq⟩
 ·exact (ak.ext ac)
 exact (al.ext ac)
theorem k_r4Sub {u w:World} {a1 a2:RL} {x1 x2:Rat} {b1 b2:RL} {y1 y2:Rat} {K L:Nat} (d:Dat u w) (ha1:RatV u a1 x1 K) (ha2:RatV u a2 x2 K) (hb1:RatV u b1 y1 L) (hb2:RatV u b2 y2 L) (hK:K≤4000000) (hL:L≤4000000):qyc 160 #[IV a1 a2,IV b1 b2] w (Post u w fun v u'=>∃p q:RL,v=IV p q∧RatN u' p (Nt.lo x1 x2 - Nt.hi y1 y2) (K+L+2)∧RatN u' q (Nt.hi x1 x2 - Nt.lo y1 y2) (K+L+2)):=by
 refine zzm Tryz.func160 rfl Tryz.ntmps160 Tryz.results160 d ?_
 refine sq9 (zzk 2 ⟨57,a1.cs++a2.cs⟩ (zzk 3 ⟨57,b1.cs++b2.cs⟩ (zzk 4 ⟨57,zw6⟩ (zzb (zzd (zzz [0,0,2,7,15] [(0,[]),(1,[]),(2,[]),(3,[]),(4,[])] xj xj (zzi 5 (.v (.agg #[.bool a1.s,a1.m.v,a1.d.v,.bool a2.s,a2.m.v,a2.d.v])) ty57 zze (zzi 6 (.v (.agg #[.bool b1.s,b1.m.v,b1.d.v,.bool b2.s,b2.m.v,b2.d.v])) ty57 zze (zzg 7 194 _ fun _ _ ad ag=>qym (k_r4neg ag (hb1.ext ad) (hb2.ext ad) xq) ?_)))))))))
 rintro _ u16 ae ⟨r12,r14,rfl,ai,ak⟩
 refine zzg 8 159 _ fun _ _ ac ah=>qym (k_r4Add ah (ha1.ext (ad.t (ae.t ac))) (ha2.ext (ad.t (ae.t ac))) (ai.ext ac).raw (ak.ext ac).raw xq xq) ?_
 rintro _ u24 g25 ⟨aa,ab,rfl,aj,al⟩
 refine zzj ⟨57,aa.cs++ab.cs⟩ ty57 ?_
 refine zzb (zzo (ret0 [.agg #[.bool aa.s,aa.m.v,aa.d.v,.bool ab.s,ab.m.v,ab.d.v]] ⟨zzr ty57 zze,trivial⟩ fun u27 af=>?_))
 refine ⟨aa,ab,rfl,RatN.more (K:=(K+L+2)) ?_ xq,RatN.more (K:=(K+L+2)) ?_ xq⟩
 ·rw[← (sub_ends y1 y2 _).1];exact (aj.ext af)
 rw[← (sub_ends y1 y2 _).2];exact (al.ext af)
theorem k_r4Sign {u w:World} {a1 a2:RL} {x1 x2:Rat} {K:Nat} (d:Dat u w) (ha1:RatV u a1 x1 K) (ha2:RatV u a2 x2 K) (hK:K≤4000000):qyc 193 #[IV a1 a2] w (Post u w fun v u'=>v=.int .i64 (sgI x1 x2)):=by
 refine zzm Tryz.func193 rfl Tryz.ntmps193 Tryz.results193 d ?_
 refine sq9 (zzk 1 ⟨57,a1.cs++a2.cs⟩ (zza 2 (zI 0) (zzb (sq9 (zzi 3 (.v (.agg #[.bool a1.s,a1.m.v,a1.d.v,.bool a2.s,a2.m.v,a2.d.v])) ty57 zze (zzg 4 156 _ fun _ _ ac ai=>qym (k_r4Trim ai (ha1.ext ac) (ha2.ext ac) xq) ?_))))))
 rintro _ u16 g17 ⟨ad,af,rfl,ag,ak⟩
 refine zzj ⟨57,ad.cs++af.cs⟩ ty57 ?_
 refine zzb (zzd (zzt (sq9 (zza 6 (.adr 1 0) (zzi 7 (.v (ad.v)) ty28 zze (zzg 8 38 _ fun _ _ ae al=>qym (k_rqSign al (ag.ext ae).raw xq) ?_))))))
 rintro _ u20 am rfl
 refine zza 9 (zB (decide ((0:Int)<(sgQ (Nt.lo x1 x2))))) (zza 5 (zB (decide ((0:Int)<(sgQ (Nt.lo x1 x2))))) (zzb (zzu (b:=decide ((0:Int)<(sgQ (Nt.lo x1 x2)))) xj (fun aa=>?_) (fun aa=>?_))))
 ·have qhb23:=qyt aa
  refine sq9 (zza 2 (zI 1) (zzb (zzo (zyu (zzw (ret0 [.int .i64 1] ⟨zzq,trivial⟩ fun u24 e25=>?_))))))
  show _=_
  unfold sgI
  rw[sgQ_gt] at aa
  rw[if_pos (qyt aa)]
  rfl
 have qhb23:=qyf aa
 refine sq9 (zza 11 (.adr 1 3) (zzi 12 (.v (af.v)) ty28 zze (zzg 13 38 _ fun _ _ aj ah=>qym (k_rqSign ah (ak.ext (ae.t (am.t aj))).raw xq) ?_)))
 rintro _ u27 g28 rfl
 refine zza 14 (zB (decide ((sgQ (Nt.hi x1 x2))<0))) (zza 10 (zB (decide ((sgQ (Nt.hi x1 x2))<0))) (zzb (zzu (b:=decide ((sgQ (Nt.hi x1 x2))<0)) xj (fun ab=>?_) (fun ab=>?_))))
 ·have qhb30:=qyt ab
  refine sq9 (zza 2 (zI (-1)) (zzb (zzo (zyu (zzw (ret0 [.int .i64 (-1)] ⟨zzq,trivial⟩ fun u31 e32=>?_))))))
  show _=_
  unfold sgI
  rw[sgQ_gt] at aa
  rw[if_neg (qyf aa)]
  rw[sgQ_lt] at ab
  rw[if_pos (qyt ab)]
  rfl
 have qhb30:=qyf ab
 refine zzs (zzp ?_)
 refine sq9 (zza 2 (zI 0) (zzb (zzo (ret0 [.int .i64 0] ⟨zzq,trivial⟩ fun u33 e34=>?_))))
 show _=_
 unfold sgI
 rw[sgQ_gt] at aa
 rw[if_neg (qyf aa)]
 rw[sgQ_lt] at ab
 rw[if_neg (qyf ab)]
 rfl
theorem k_r4Square {u w:World} {a1 a2:RL} {x1 x2:Rat} {K:Nat} (d:Dat u w) (ha1:RatV u a1 x1 K) (ha2:RatV u a2 x2 K) (hK:K≤4000000):qyc 158 #[IV a1 a2] w (Post u w fun v u'=>∃p q:RL,v=IV p q∧RatN u' p (if sgI x1 x2=0 then 0 else Nt.lo (x1*x1) (x2*x2)) (K+K+3)∧RatN u' q (Nt.hi (x1*x1) (x2*x2)) (K+K+3)):=by
 refine zzm Tryz.func158 rfl Tryz.ntmps158 Tryz.results158 d ?_
 refine sq9 (zzk 1 ⟨57,a1.cs++a2.cs⟩ (zzk 2 ⟨57,zw6⟩ (zzb (zzd (zzz [0,1,0,4,15,0,32,0,128,511,1023,0,4095] [(0,[]),(1,[]),(2,[]),(3,[]),(5,[]),(6,[]),(7,[]),(8,[]),(11,[]),(4,[]),(9,[]),(10,[]),(12,[])] xj xj (zza 4 (.adr 1 0) (zzi 5 (.v (a1.v)) ty28 zze (zza 6 (.adr 1 0) (zzi 7 (.v (a1.v)) ty28 zze (zza 9 (.adr 1 3) (zzi 10 (.v (a2.v)) ty28 zze ?_)))))))))))
 refine zza 11 (.adr 1 3) (zzi 12 (.v (a2.v)) ty28 zze (zzk 3 ⟨57,zw6⟩ (zzg 8 15 _ fun _ _ ae av=>qym (k_rqMul av (ha1.ext ae) (ha1.ext ae) xq xq) ?_)))
 rintro _ u14 ah ⟨r12,rfl,aq⟩
 refine zzg 13 15 _ fun _ _ af aw=>qym (k_rqMul aw (ha2.ext (ae.t (ah.t af))) (ha2.ext (ae.t (ah.t af))) xq xq) ?_
 rintro _ u20 ak ⟨r18,rfl,aC⟩
 refine zzg 14 100 _ fun _ _ ai aB=>qym (k_r4Make aB (aq.ext (af.t (ak.t ai))).raw (aC.ext ai).raw xq) ?_
 rintro _ u28 am ⟨ab,aa,rfl,ax,al⟩
 refine zzj ⟨57,ab.cs++aa.cs⟩ ty57 ?_
 refine zzb (zzd (sq9 (zzi 15 (.v (.agg #[.bool a1.s,a1.m.v,a1.d.v,.bool a2.s,a2.m.v,a2.d.v])) ty57 zze (zzg 16 193 _ fun _ _ ag aA=>qym (k_r4Sign aA (ha1.ext (ae.t (ah.t (af.t (ak.t (ai.t (am.t ag))))))) (ha2.ext (ae.t (ah.t (af.t (ak.t (ai.t (am.t ag))))))) xq) ?_))))
 rintro _ u32 aj rfl
 refine zza 17 (zB ((sgI x1 x2)==0)) (zzb (zzu (b:=(sgI x1 x2)==0) xj (fun ad=>?_) (fun ad=>?_)))
 ·refine zzf (zzg 18 11 _ fun _ _ ar au=>qym (k_rqOf au (z:=0) xq xq) ?_)
  rintro _ u39 ap ⟨ac,rfl,ay⟩
  refine zza 19 (.adr 3 0) (zzj ⟨57,ac.cs++aa.cs⟩ ty28 ?_)
  refine zzb (sq9 (zzi 20 (.v (.agg #[.bool ac.s,ac.m.v,ac.d.v,.bool aa.s,aa.m.v,aa.d.v])) ty57 zze (zzj ⟨57,ac.cs++aa.cs⟩ ty57 ?_)))
  refine zzb (zzo (ret0 [.agg #[.bool ac.s,ac.m.v,ac.d.v,.bool aa.s,aa.m.v,aa.d.v]] ⟨zzr ty57 zze,trivial⟩ fun u42 ao=>?_))
  refine ⟨ac,aa,rfl,RatN.more (K:=2) ?_ xq,RatN.more (K:=(K+K+1)) ?_ xq⟩
  ·rw[if_pos (by simpa using ad)];exact (ay.ext ao)
  exact (al.ext (ag.t (aj.t (ar.t (ap.t ao)))))
 refine zzs (zzp ?_)
 refine sq9 (zzi 20 (.v (.agg #[.bool ab.s,ab.m.v,ab.d.v,.bool aa.s,aa.m.v,aa.d.v])) ty57 zze (zzj ⟨57,ab.cs++aa.cs⟩ ty57 ?_))
 refine zzb (zzo (ret0 [.agg #[.bool ab.s,ab.m.v,ab.d.v,.bool aa.s,aa.m.v,aa.d.v]] ⟨zzr ty57 zze,trivial⟩ fun u44 an=>?_))
 refine ⟨ab,aa,rfl,RatN.more (K:=(K+K+1)) ?_ xq,RatN.more (K:=(K+K+1)) ?_ xq⟩
 ·rw[if_neg (by simpa using ad)];exact (ax.ext (ag.t (aj.t an)))
 exact (al.ext (ag.t (aj.t an)))
theorem k_ivRoundG {u w:World} {a1 a2:RL} {x1 x2:Rat} {K:Nat} {k:Nat} (hk:k≤256) (d:Dat u w) (ha1:RatV u a1 x1 K) (ha2:RatV u a2 x2 K) (hK:K≤100000):qyc 178 #[IV a1 a2,.int .i64 (k:Int)] w (Post u w fun v u'=>∃p q:RL,v=.tuple #[IV p q,.int .i64 (rndE (k:Int))]∧OptI u' p q (rndO x1 x2 (k:Int)) (K+70)):=by
 refine zzm Tryz.func178 rfl Tryz.ntmps178 Tryz.results178 d ?_
 refine sq9 (zzk 2 ⟨57,a1.cs++a2.cs⟩ (zzk 4 ⟨57,zw6⟩ (zza 5 (zI 0) (zzb (zzd (sq9 (zza 12 (zI k) (zza 13 (zB (decide ((k:Int)<0))) (zyq 14 (x:=zB (decide ((k:Int)<0))) (zB false) (by rw[show (decide ((k:Int)<0))=false from decide_eq_false xq]) (zza 15 (zI k) ?_ (hw:=w1 2 false 14)))))))))))
 refine zza 16 (zB (decide ((256:Int)<(k:Int)))) ?_ (hw:=w1 2 false 14)
 refine zza 17 (zB (decide ((256:Int)<(k:Int)))) (zzb (zzu (b:=decide ((256:Int)<(k:Int))) xj (fun hb=>?_) (fun hb=>?_)))
 ·exact absurd hb (by rw[show (decide ((256:Int)<(k:Int)))=false from decide_eq_false xq];decide)
 clear hb
 refine zzs (zzp ?_)
 refine sq9 (zzi 20 (.v (.agg #[.bool a1.s,a1.m.v,a1.d.v,.bool a2.s,a2.m.v,a2.d.v])) ty57 zze (zzg 21 202 _ fun _ _ af ao=>qym (k_ends ao (ha1.ext af) (ha2.ext af) xq) ?_))
 rintro _ u17 g18 ⟨ac,ad,rfl,al,ap⟩
 refine zza 19 (.v (.tuple #[ac.v,ad.v])) (zza 22 (.v (ac.v)) (zza 23 (.v (ad.v)) (zzk 6 ⟨28,zw3⟩ (zzk 7 ⟨28,zw3⟩ (zzj ⟨28,ac.cs⟩ ty28 ?_)))))
 refine zzj ⟨28,ad.cs⟩ ty28 ?_
 refine zzb (sq9 (zzi 25 (.v (ac.v)) ty28 zze (zza 26 (zI k) (zzg 27 203 _ fun _ _ ah an=>qym (k_downG (k:=k) xq an (al.ext ah) xq) ?_))))
 rintro _ u23 ak ⟨aa,rfl,am⟩
 refine zza 24 (.v (.tuple #[aa.v,.int .i64 0])) (zza 28 (.v (aa.v)) (zza 29 (zI 0) (zzk 8 ⟨28,zw3⟩ (zzj ⟨28,aa.cs⟩ ty28 ?_))))
 refine zza 9 (zI 0) (zzb (sq9 (zzi 31 (.v (ad.v)) ty28 zze (zza 32 (zI k) (zzg 33 204 _ fun _ _ ae ai=>qym (k_upG (k:=k) xq ai (ap.ext (ah.t (ak.t ae))) xq) ?_)))))
 rintro _ u29 aj ⟨ab,rfl,aq⟩
 refine zza 30 (.v (.tuple #[ab.v,.int .i64 0])) (zza 34 (.v (ab.v)) (zza 35 (zI 0) (zzk 10 ⟨28,zw3⟩ (zzj ⟨28,ab.cs⟩ ty28 ?_))))
 refine zza 11 (zI 0) (zzc 39 [(4,.adr 4 0),(8,.adr 8 0),(10,.adr 10 0)] [(4,⟨57,zw6⟩),(8,⟨28,aa.cs⟩),(10,⟨28,ab.cs⟩)] (sq9 (zzi 36 (.v (aa.v)) ty28 zze (zzi 37 (.v (ab.v)) ty28 zze (zza 38 (.v (.agg #[.bool aa.s,aa.m.v,aa.d.v,.bool ab.s,ab.m.v,ab.d.v])) (zzj ⟨57,aa.cs++ab.cs⟩ ty57 ?_))))))
 refine zza 5 (zI 0) (zzb (zzo (ret0 [.agg #[.bool aa.s,aa.m.v,aa.d.v,.bool ab.s,ab.m.v,ab.d.v],.int .i64 0] ⟨zzr ty57 zze,zzq,trivial⟩ fun u32 ag=>?_)))
 have h9:¬((k:Int)<0∨256<(k:Int)):=by omega
 refine ⟨aa,ab,by unfold rndE;rw[if_neg h9];rfl,?_⟩
 unfold rndO
 rw[if_neg h9,Int.toNat_natCast]
 exact ⟨RatN.more (K:=(K+20)) (am.ext (ae.t (aj.t ag))) xq,RatN.more (K:=(K+20)) (aq.ext ag) xq⟩
theorem k_r4RoundG {u w:World} {a1 a2:RL} {x1 x2:Rat} {K:Nat} {k:Nat} (hk:k≤256) (d:Dat u w) (ha1:RatV u a1 x1 K) (ha2:RatV u a2 x2 K) (hK:K≤100000):qyc 155 #[IV a1 a2,.int .i64 (k:Int)] w (Post u w fun v u'=>∃p q:RL,v=.tuple #[IV p q,.int .i64 (rndE (k:Int))]∧OptI u' p q (rndO x1 x2 (k:Int)) (K+70)):=by
 refine zzm Tryz.func155 rfl Tryz.ntmps155 Tryz.results155 d ?_
 refine sq9 (zzk 2 ⟨57,a1.cs++a2.cs⟩ (zzk 4 ⟨57,zw6⟩ (zza 5 (zI 0) (zzb (sq9 (zzi 10 (.v (.agg #[.bool a1.s,a1.m.v,a1.d.v,.bool a2.s,a2.m.v,a2.d.v])) ty57 zze (zzg 11 156 _ fun _ _ ae aj=>qym (k_r4Trim aj (ha1.ext ae) (ha2.ext ae) xq) ?_)))))))
 rintro _ u16 g17 ⟨af,ah,rfl,ai,ap⟩
 refine zzj ⟨57,af.cs++ah.cs⟩ ty57 ?_
 refine zzb (sq9 (zza 13 (.adr 2 0) (zzi 14 (.v (af.v)) ty28 zze (zza 15 (zI k) (zzg 16 191 _ fun _ _ ag aq=>qym (k_rdownG (k:=k) xq aq (ai.ext ag).raw xq) ?_)))))
 rintro _ u22 an ⟨aa,rfl,ak⟩
 refine zza 12 (.v (.tuple #[aa.v,.int .i64 0])) (zza 17 (.v (aa.v)) (zza 18 (zI 0) (zzk 6 ⟨28,zw3⟩ (zzj ⟨28,aa.cs⟩ ty28 ?_))))
 refine zza 7 (zI 0) (zzb (zzd (sq9 (zza 19 (zI 0) (zza 20 (zB false) (zzb (zys xj (zzs (zzp ?_)))))))))
 refine sq9 (zza 24 (.adr 2 3) (zzi 25 (.v (ah.v)) ty28 zze (zza 26 (zI k) (zzg 27 192 _ fun _ _ ad al=>qym (k_rupG (k:=k) xq al (ap.ext (ag.t (an.t ad))).raw xq) ?_))))
 rintro _ u28 ao ⟨ab,rfl,am⟩
 refine zza 23 (.v (.tuple #[ab.v,.int .i64 0])) (zza 28 (.v (ab.v)) (zza 29 (zI 0) (zzk 8 ⟨28,zw3⟩ (zzj ⟨28,ab.cs⟩ ty28 ?_))))
 refine zza 9 (zI 0) (zzb (sq9 (zzi 30 (.v (aa.v)) ty28 zze (zzi 31 (.v (ab.v)) ty28 zze (zza 32 (.v (.agg #[.bool aa.s,aa.m.v,aa.d.v,.bool ab.s,ab.m.v,ab.d.v])) (zzj ⟨57,aa.cs++ab.cs⟩ ty57 ?_))))))
 refine zza 5 (zI 0) (zzc 33 [(4,.adr 4 0),(5,zI 0)] [(4,⟨57,aa.cs++ab.cs⟩)] (zzo (ret0 [.agg #[.bool aa.s,aa.m.v,aa.d.v,.bool ab.s,ab.m.v,ab.d.v],.int .i64 0] ⟨zzr ty57 zze,zzq,trivial⟩ fun u31 ac=>?_)))
 have h9:¬((k:Int)<0∨256<(k:Int)):=by omega
 refine ⟨aa,ab,by unfold rndE;rw[if_neg h9];rfl,?_⟩
 unfold rndO
 rw[if_neg h9,Int.toNat_natCast]
 exact ⟨RatN.more (K:=(K+60)) (ak.ext (ad.t (ao.t ac))) xq,RatN.more (K:=(K+60)) (am.ext ac) xq⟩
@[reducible] def SP (a b:IL):Value:=.agg #[.bool a.s,.slice a.m.a a.m.n a.m.c,.bool b.s,.slice b.m.a b.m.n b.m.c]
namespace Nt
theorem pw_u2 (k:Nat):pw k=u2 (32*k):=by
 induction k with
 | zero=>rfl
 | succ k ih =>
  have h:u2 (32*(k+1))=u2 (32*k)*u2 32:=by rw[← u2_add];rfl
  have e:u2 32=4294967296:=by decide +kernel
  show 4294967296*pw k=_
  rw[ih,h,e,Int.mul_comm]
theorem dl_u2 {z:Int} {L b:Nat} (h0 : -(u2 b)≤z) (h1:z≤u2 b) (h:b<32*L):dl z.natAbs≤L:=by
 refine dl_le ?_
 rw[pw_u2]
 have h2:=u2_mono (a:=b+1) (b:=32*L) xq
 have h3:u2 (b+1)=u2 b*2:=u2_add b 1
 have h4:=u2_pos b
 omega
theorem big {w:Nat} (hw:w≤800):8*u2 w+1152921504606846976≤u2 1000:=by
 have h1:=u2_mono hw
 have h2:8*u2 800+1152921504606846976≤u2 1000:=by decide +kernel
 omega
theorem cmp_le (x y:Int):decide (cmpS x y≤0)=decide (x≤y):=by
 rw[decide_eq_decide]
 rcases cmp_range x y with ⟨e,h⟩ | ⟨e,h⟩ | ⟨e,h⟩<;>rw[e]<;>omega
theorem cmp_ne (x y:Int):(cmpS x y != 0)=decide (x≠y):=by
 rcases cmp_range x y with ⟨e,h⟩ | ⟨e,h⟩ | ⟨e,h⟩<;>rw[e]<;>simp<;>omega
theorem csW_le {w:Nat} (hw:w≤800):csW w*((w:Int)+4)+2≤1000000000∧0≤csW w*((w:Int)+2)∧csW w*((w:Int)+2)≤1000000000:=by
 have h0:0≤csW w:=by unfold csW;omega
 have h1:csW w≤411211:=by unfold csW;omega
 have h2:=Int.mul_le_mul h1 (show (w:Int)+4≤804 by omega) xq yq
 have h3:=Int.mul_le_mul_of_nonneg_left (show (w:Int)+2≤(w:Int)+4 by omega) h0
 have h4:=Int.mul_nonneg h0 (show 0≤(w:Int)+2 by omega)
 omega
theorem width_lt {lo hi:Int} {g w:Nat} (h:hi - lo≤1000000000) (hw:g+37≤w):hi - lo<u2 (w - g):=by
 have h1:=u2_mono (a:=37) (b:=w - g) xq
 have h2:u2 37=137438953472:=by decide +kernel
 omega
theorem atR_bd {n w:Nat} {a b:Int} (h:AtR n w a b) (hn:0<n) : -(5*(w:Int)+8)≤a∧a≤u2 w∧0≤b∧b≤u2 w+5*(w:Int)+8∧a≤b:=by
 obtain ⟨⟨N,h1⟩,h2⟩:=h
 have h3:=h1 (N+1) xq
 have k1:=atT_b (n:=n) hn (m:=N+1) xq
 have k2:=atT_le hn 0
 have hU:=castI_pos (u2_pos w)
 have h4:alt (atT n) (N+1)≤1:=by
  refine Rat.le_trans k1.2 ?_
  refine Rat.le_trans (div_le_self (atP_nn hn 0) (cast_one xq)) ?_
  show 1 / (n:Rat)≤1
  exact div_le_self yq (cast_one hn)
 have h5:=h3.lo_le (c:=u2 w) (by
  have:=Rat.mul_le_mul_of_nonneg_right h4 (Rat.le_of_lt hU)
  rwa [Rat.one_mul] at this)
 have h6:=h3.nonneg (by grind) (u2_pos w)
 have:=h3.le
 omega
theorem coD_mul {j:Nat} (h:j≤1000):IntKind.i64.wrap (((2*j+2:Nat):Int)*((2*j+2 - 1:Nat):Int))=coD j∧coD j≤10000000:=by
 have h1:=Nat.mul_le_mul (show 2*j+2≤2002 by omega) (show 2*j+1≤2001 by omega)
 have e:((2*j+2:Nat):Int)*((2*j+2 - 1:Nat):Int)=coD j:=by
  unfold coD
  rw[Int.natCast_mul,show 2*j+2 - 1=2*j+1 by omega]
 have h2:coD j≤10000000:=by unfold coD;omega
 have h3:=coD_pos j
 rw[e]
 exact ⟨IntWalk.i64_in _ xq,h2⟩
theorem csR_bd {p q w:Nat} {a b:Int} (h:CsR p q w a b) (h0:0<q) (hp:2*p≤q) (hw:w≤800) : -(3*u2 w) - 1000000000≤a∧a≤3*u2 w ∧ -(3*u2 w)≤b∧b≤3*u2 w+1000000000∧a≤b∧b - a≤1000000000:=by
 have h9:=csW_le hw
 obtain ⟨⟨N,h1⟩,h2⟩:=h
 have h3:=h1 (N+1) xq
 have h4:=cs_bd (N:=N) (m:=N+1) h0 hp xq xq h3
 have:=h3.le
 omega
theorem flo_of {X:Nat→Rat} {b w:Nat} {lo hi:Int} (h:∃N:Nat,∀m,N≤m→Enc (u2 w) lo hi (X m)) (hb:b≤w) (he:(cmpS (lo / u2 (w - b)) (hi / u2 (w - b)) != 0)=false):lo / u2 (w - b)=flo X b:=by
 rw[cmp_ne] at he
 have h1:lo / u2 (w - b)=hi / u2 (w - b):=by simpa using he
 exact (FlO.of h hb rfl h1.symm).flo.symm
theorem not_yet {X:Nat→Rat} {b g w:Nat} {lo hi:Int} (hg:Gap X b g) (h:∃N:Nat,∀m,N≤m→Enc (u2 w) lo hi (X m)) (hw:hi - lo≤1000000000) (he:(cmpS (lo / u2 (w - b)) (hi / u2 (w - b)) != 0)=true):w<g+37:=by
 rcases Nat.lt_or_ge w (g+37) with k | k
 ·exact k
 have:=hg.decides h xq (width_lt hw k)
 rw[cmp_ne] at he
 exact absurd this (by simpa using he)
theorem dnQ_int (z:Int) (b:Nat):dnQ (z:Rat) b=(z:Rat):=by
 unfold dnQ
 have e:(z:Rat)*((2^b:Nat):Rat)=((z*((2^b:Nat):Int):Int):Rat):=by rw[Rat.intCast_mul];rfl
 have f:flr ((z*((2^b:Nat):Int):Int):Rat)=z*((2^b:Nat):Int):=by
  unfold flr
  show (z*((2^b:Nat):Int)) / ((1:Nat):Int)=_
  exact Int.ediv_one _
 have hp:(2^b:Nat)≠0:=by have:=Nat.pow_pos (n:=b) (show 0<2 by decide);omega
 rw[e,f,Rat.mkRat_eq_div,Rat.intCast_mul]
 show (z:Rat)*((2^b:Nat):Rat) / ((2^b:Nat):Rat)=_
 have:((2^b:Nat):Rat)≠0:=by
  have:=cast_pos (Nat.pow_pos (n:=b) (show 0<2 by decide))
  grind
 generalize ((2^b:Nat):Rat)=x at *
 grind
theorem rnd_pt {q:Rat} {k:Nat} (hk:k≤256):rndO (lo q q) (hi q q) (k:Int)=some (dnQ q k,-dnQ (-q) k):=by
 unfold rndO
 have e:=lo_of_le (Rat.le_refl (a:=q))
 rw[if_neg (show ¬((k:Int)<0∨256<(k:Int)) by omega),e.1,e.2,e.1,e.2,Int.toNat_natCast]
theorem cosA_0 {r q b:Nat} (h:r=0):cosA r q b=(dnQ ((1:Int):Rat) b,-dnQ (-((1:Int):Rat)) b):=by
 have e : -((1:Int):Rat)=((-1:Int):Rat):=rfl
 unfold cosA
 rw[if_pos h,dnQ_int,e,dnQ_int];rfl
theorem cosA_h {r q b:Nat} (h:¬r=0) (h2:2*r=q):cosA r q b=(dnQ ((0:Int):Rat) b,-dnQ (-((0:Int):Rat)) b):=by
 have e : -((0:Int):Rat)=((0:Int):Rat):=rfl
 unfold cosA
 rw[if_neg h,if_pos h2,e,dnQ_int];rfl
theorem cosA_3 {r q b:Nat} (h:¬r=0) (h2:¬2*r=q) (h3:3*r=q):cosA r q b=(dnQ (((1:Int):Rat) / ((2:Int):Rat)) b,-dnQ (-(((1:Int):Rat) / ((2:Int):Rat))) b):=by
 unfold cosA
 rw[if_neg h,if_neg h2,if_pos h3];rfl
theorem cosA_g {r q b:Nat} (h:¬r=0) (h2:¬2*r=q) (h3:¬3*r=q):cosA r q b=(gr b (flo (coN r q) b),gr b (flo (coN r q) b+1)):=by
 unfold cosA
 rw[if_neg h,if_neg h2,if_neg h3]
theorem cosV_lo {p:Int} {q b r:Nat} (h:fold p q=r) (h2:¬q<2*r):cosV p q b=cosA r q b:=by
 unfold cosV cosF;rw[h,if_neg h2]
theorem cosV_hi {p:Int} {q b r:Nat} (h:fold p q=r) (h2:q<2*r):cosV p q b=(-(cosA (q - r) q b).2,-(cosA (q - r) q b).1):=by
 unfold cosV cosF;rw[h,if_pos h2]
theorem fold_id {r q:Nat} (h:r≤q):fold (r:Int) q=r:=by
 unfold fold
 dsimp only
 rcases Nat.eq_zero_or_pos q with h0 | h0
 ·have:r=0:=by omega
  subst this;subst h0;rfl
 rw[Int.tmod_eq_of_lt xq xq,if_neg xq]
 omega
theorem tmod_bd (p:Int) {q:Nat} (hq:0<q) : -(2*(q:Int))<Int.tmod p (2*(q:Int))∧Int.tmod p (2*(q:Int))<2*(q:Int):=⟨Int.lt_tmod_of_pos p xq,Int.tmod_lt_of_pos p xq⟩
end Nt
theorem IntN.fit {u:World} {i:IL} {z:Int} {K L:Nat} (h:IntN u i z K) (k:dl z.natAbs≤L):IntN u i z L:=⟨h.1,h.2.1,h.2.2.1,k⟩
theorem IntN.lim {u:World} {i:IL} {z:Int} {K:Nat} (h:IntN u i z K) (h0 : -(Nt.u2 1000)≤z) (h1:z≤Nt.u2 1000):IntN u i z 40:=h.fit (dl_u2 h0 h1 yq)
theorem IntN.lim2 {u:World} {i:IL} {z:Int} {K:Nat} (h:IntN u i z K) (h0 : -(Nt.u2 1000)≤z) (h1:z≤Nt.u2 1000):IntN u i z 42:=(h.lim h0 h1).more yq
theorem k_intDivI {u w:World} {i1 i2:IL} {z D:Int} {K L:Nat} (d:Dat u w) (h1:IntV u i1 z K) (h2:IntN u i2 D L) (hD:0<D) (hK:K≤100000000) (hL:L≤100000000):qyc 180 #[i1.v,i2.v] w (Post u w fun v u'=>∃i j:IL,v=.tuple #[i.v,j.v,.int .i64 0]∧IntN u' i (z / D) (K+1)∧IntN u' j (z%D) L):=by
 obtain ⟨s,y⟩:=i2
 have hs:s=false:=by have h3:=h2.1;rw[decide_eq_false xq] at h3;exact h3
 subst hs
 have hd:((D.natAbs:Nat):Int)=D:=by omega
 have:=k_intDivP d h1 (y:=y) (M:=D.natAbs) h2.2.raw xq hK hL
 rw[hd] at this
 exact this
theorem k_intSub {u w:World} {i1:IL} {zN:Int} {K:Nat} {i2:IL} {zM:Int} {L:Nat} (d:Dat u w) (hi1:IntV u i1 zN K) (hi2:IntV u i2 zM L) (hK:K≤400000000) (hL:L≤400000000):qyc 206 #[i1.v,i2.v] w (Post u w fun v u'=>∃i:IL,v=i.v∧IntN u' i (zN - zM) (max K L+1)):=by
 obtain ⟨N,hN,hzN⟩:=hi1
 obtain ⟨M,hM,hzM⟩:=hi2
 refine zzm Tryz.func206 rfl Tryz.ntmps206 Tryz.results206 d ?_
 refine sq9 (zzk 2 ⟨26,i1.cs⟩ (zzk 3 ⟨26,i2.cs⟩ (zzk 4 ⟨26,[.bool false,qyn]⟩ (zzb (sq9 (zzi 5 (.v (i1.v)) ty26 zze (zza 6 (.adr 3 0) (zzi 7 (zB i2.s) ty4 zzl (zza 8 (zB (!i2.s)) (zza 9 (.adr 3 1) (zzi 10 (.v (i2.m.v)) ty24 zzl ?_)))))))))))
 refine zza 11 (.v (.agg #[.bool (!i2.s),i2.m.v])) (zzg 12 79 _ fun _ _ ab ac=>qym (k_intAdd ac (IntV.same (s:=i1.s) (hN.ext ab)) (IntV.same (s := !i2.s) (hM.ext ab)) xq xq) ?_)
 rintro _ u14 g15 ⟨aa,rfl,ae⟩
 refine zzj ⟨26,aa.cs⟩ ty26 ?_
 refine zzb (zzo (ret0 [aa.v] ⟨zzr ty26 zze,trivial⟩ fun u17 ad=>?_))
 refine ⟨aa,rfl,IntN.more (K:=(max K L+1)) ?_ xq⟩
 have e9:zN - zM=Nt.sg i1.s N+Nt.sg (!i2.s) M:=by rw[hzN,hzM];unfold Nt.sg;cases i1.s<;>cases i2.s<;>simp<;>omega
 rw[e9]
 exact (ae.ext ad)
theorem k_eUnit {u w:World} {k:Nat} (d:Dat u w) (hk:k≤65536):qyc 143 #[.int .i64 (k:Int)] w (Post u w fun v u'=>∃i:IL,v=SP i i∧IntN u' i (Nt.u2 k) (k / 32+2)):=by
 refine zzm Tryz.func143 rfl Tryz.ntmps143 Tryz.results143 d ?_
 refine sq9 (zzk 2 ⟨144,[.bool false,qyn,.bool false,qyn]⟩ (zzb (sq9 (zxx 4 ⟨79,[.int .u32 1]⟩ 1 (fun b11 u12 e13 ac=>?_)))))
 refine zza 5 (zI k) (zzg 6 85 _ fun _ _ ad ab=>qym (k_natShift (s:=k) ab ((one_data ac).ext ad).raw xq xq) ?_)
 rintro _ u18 g19 ⟨aa,rfl,af⟩
 refine zza 7 (.v (.agg #[.bool false,aa.v])) (zzk 3 ⟨26,[.bool false,qyn]⟩ (zzj ⟨26,[.bool false,aa.v]⟩ ty26 ?_))
 refine zzb (sq9 (zzi 8 (.v (.agg #[.bool false,aa.v])) ty26 zze (zzi 9 (.v (.agg #[.bool false,aa.v])) ty26 zze (zza 10 (.v (.agg #[.bool false,aa.v,.bool false,aa.v])) (zzj ⟨144,[.bool false,aa.v,.bool false,aa.v]⟩ ty144 ?_)))))
 refine zzb (zzo (ret0 [.agg #[.bool false,aa.v,.bool false,aa.v]] ⟨zzr ty144 zze,trivial⟩ fun u21 ae=>?_))
 refine ⟨(⟨false,aa⟩:IL),rfl,?_⟩
 have h9:=nat_intN (af.ext ae)
 rw[Nat.one_mul] at h9
 exact h9.more xq
theorem k_eAdd {u w:World} {i j:IL} {a b:Int} {K:Nat} {k l:IL} {e f:Int} {L:Nat} (d:Dat u w) (hi:IntN u i a K) (hj:IntN u j b K) (hk:IntN u k e L) (hl:IntN u l f L) (hK:K≤1000000) (hL:L≤1000000):qyc 186 #[SP i j,SP k l] w (Post u w fun v u'=>∃i j:IL,v=SP i j∧IntN u' i (a+e) (max K L+1)∧IntN u' j (b+f) (max K L+1)):=by
 refine zzm Tryz.func186 rfl Tryz.ntmps186 Tryz.results186 d ?_
 refine sq9 (zzk 2 ⟨144,i.cs++j.cs⟩ (zzk 3 ⟨144,k.cs++l.cs⟩ (zzk 4 ⟨144,[.bool false,qyn,.bool false,qyn]⟩ (zzb (zzd (zzz [0,1,0,4,15,0,32,0,128,511,1023,2047] [(0,[]),(1,[]),(2,[]),(3,[]),(5,[]),(6,[]),(7,[]),(8,[]),(4,[]),(9,[]),(10,[]),(11,[])] xj xj (zza 5 (.adr 2 0) (zzi 6 (.v (i.v)) ty26 zze (zza 7 (.adr 3 0) (zzi 8 (.v (k.v)) ty26 zze (zza 10 (.adr 2 2) ?_)))))))))))
 refine zzi 11 (.v (j.v)) ty26 zze (zza 12 (.adr 3 2) (zzi 13 (.v (l.v)) ty26 zze (zzg 9 79 _ fun _ _ ac ag=>qym (k_intAdd ag (hi.ext ac).raw (hk.ext ac).raw xq xq) ?_)))
 rintro _ u14 ae ⟨ab,rfl,ai⟩
 refine zzg 14 79 _ fun _ _ ad ah=>qym (k_intAdd ah (hj.ext (ac.t (ae.t ad))).raw (hl.ext (ac.t (ae.t ad))).raw xq xq) ?_
 rintro _ u20 aj ⟨aa,rfl,ak⟩
 refine zza 15 (.v (.agg #[.bool ab.s,ab.m.v,.bool aa.s,aa.m.v])) (zzj ⟨144,ab.cs++aa.cs⟩ ty144 ?_)
 refine zzb (zzo (ret0 [.agg #[.bool ab.s,ab.m.v,.bool aa.s,aa.m.v]] ⟨zzr ty144 zze,trivial⟩ fun u23 af=>?_))
 refine ⟨ab,aa,rfl,IntN.more (K:=(max K L+1)) ?_ xq,IntN.more (K:=(max K L+1)) ?_ xq⟩
 ·exact (ai.ext (ad.t (aj.t af)))
 exact (ak.ext af)
theorem k_eSub {u w:World} {i j:IL} {a b:Int} {K:Nat} {k l:IL} {e f:Int} {L:Nat} (d:Dat u w) (hi:IntN u i a K) (hj:IntN u j b K) (hk:IntN u k e L) (hl:IntN u l f L) (hK:K≤1000000) (hL:L≤1000000):qyc 185 #[SP i j,SP k l] w (Post u w fun v u'=>∃i j:IL,v=SP i j∧IntN u' i (a - f) (max K L+1)∧IntN u' j (b - e) (max K L+1)):=by
 refine zzm Tryz.func185 rfl Tryz.ntmps185 Tryz.results185 d ?_
 refine sq9 (zzk 2 ⟨144,i.cs++j.cs⟩ (zzk 3 ⟨144,k.cs++l.cs⟩ (zzk 4 ⟨144,[.bool false,qyn,.bool false,qyn]⟩ (zzb (zzd (zzz [0,1,0,4,15,0,32,0,128,511,1023,2047] [(0,[]),(1,[]),(2,[]),(3,[]),(5,[]),(6,[]),(7,[]),(8,[]),(4,[]),(9,[]),(10,[]),(11,[])] xj xj (zza 5 (.adr 2 0) (zzi 6 (.v (i.v)) ty26 zze (zza 7 (.adr 3 2) (zzi 8 (.v (l.v)) ty26 zze (zza 10 (.adr 2 2) ?_)))))))))))
 refine zzi 11 (.v (j.v)) ty26 zze (zza 12 (.adr 3 0) (zzi 13 (.v (k.v)) ty26 zze (zzg 9 206 _ fun _ _ ac ag=>qym (k_intSub ag (hi.ext ac).raw (hl.ext ac).raw xq xq) ?_)))
 rintro _ u14 ae ⟨ab,rfl,ai⟩
 refine zzg 14 206 _ fun _ _ ad ah=>qym (k_intSub ah (hj.ext (ac.t (ae.t ad))).raw (hk.ext (ac.t (ae.t ad))).raw xq xq) ?_
 rintro _ u20 aj ⟨aa,rfl,ak⟩
 refine zza 15 (.v (.agg #[.bool ab.s,ab.m.v,.bool aa.s,aa.m.v])) (zzj ⟨144,ab.cs++aa.cs⟩ ty144 ?_)
 refine zzb (zzo (ret0 [.agg #[.bool ab.s,ab.m.v,.bool aa.s,aa.m.v]] ⟨zzr ty144 zze,trivial⟩ fun u23 af=>?_))
 refine ⟨ab,aa,rfl,IntN.more (K:=(max K L+1)) ?_ xq,IntN.more (K:=(max K L+1)) ?_ xq⟩
 ·exact (ai.ext (ad.t (aj.t af)))
 exact (ak.ext af)
theorem k_eTimes {u w:World} {i j:IL} {a b:Int} {K:Nat} {n9:Nat} (d:Dat u w) (hi:IntN u i a K) (hj:IntN u j b K)  (hK:K≤1000000) (hn:n9≤1000000000):qyc 182 #[SP i j,.int .i64 (n9:Int)] w (Post u w fun v u'=>∃i j:IL,v=SP i j∧IntN u' i (a*(n9:Int)) (K+2)∧IntN u' j (b*(n9:Int)) (K+2)):=by
 refine zzm Tryz.func182 rfl Tryz.ntmps182 Tryz.results182 d ?_
 refine sq9 (zzk 2 ⟨144,i.cs++j.cs⟩ (zzk 4 ⟨144,[.bool false,qyn,.bool false,qyn]⟩ (zzb (zzd (zzz [0,1,0,4,15,0,32,0,159,511,1023,2047] [(0,[]),(1,[]),(2,[]),(5,[]),(6,[]),(7,[]),(3,[]),(4,[]),(8,[]),(9,[]),(10,[]),(11,[])] xj xj (zza 5 (.adr 2 0) (zzi 6 (.v (i.v)) ty26 zze (zza 7 (zI n9) (zza 10 (.adr 2 2) (zzi 11 (.v (j.v)) ty26 zze (zza 12 (zI n9) ?_)))))))))))
 refine zzg 8 72 _ fun _ _ ae ak=>qym (k_intOf ak (z:=(n9:Int)) xq xq) ?_
 rintro _ u14 ag ⟨i12,rfl,aj⟩
 refine zzg 9 75 _ fun _ _ ac al=>qym (k_intMul al (hi.ext (ae.t (ag.t ac))).raw (aj.ext ac).raw xq xq) ?_
 rintro _ u20 ar ⟨ab,rfl,au⟩
 refine zzg 13 72 _ fun _ _ ah ap=>qym (k_intOf ap (z:=(n9:Int)) xq xq) ?_
 rintro _ u26 ai ⟨i24,rfl,an⟩
 refine zzg 14 75 _ fun _ _ ad am=>qym (k_intMul am (hj.ext (ae.t (ag.t (ac.t (ar.t (ah.t (ai.t ad))))))).raw (an.ext ad).raw xq xq) ?_
 rintro _ u32 ao ⟨aa,rfl,aq⟩
 refine zza 15 (.v (.agg #[.bool ab.s,ab.m.v,.bool aa.s,aa.m.v])) (zzj ⟨144,ab.cs++aa.cs⟩ ty144 ?_)
 refine zzb (zzo (ret0 [.agg #[.bool ab.s,ab.m.v,.bool aa.s,aa.m.v]] ⟨zzr ty144 zze,trivial⟩ fun u35 af=>?_))
 refine ⟨ab,aa,rfl,IntN.more (K:=(K+2)) ?_ xq,IntN.more (K:=(K+2)) ?_ xq⟩
 ·exact (au.ext (ah.t (ai.t (ad.t (ao.t af)))))
 exact (aq.ext af)
theorem k_eOver {u w:World} {i j:IL} {a b:Int} {K:Nat} {l:IL} {D:Int} {L:Nat} (d:Dat u w) (hi:IntN u i a K) (hj:IntN u j b K) (hl:IntN u l D L) (hD:0<D) (hK:K≤1000000) (hL:L≤1000000):qyc 183 #[SP i j,l.v] w (Post u w fun v u'=>∃i j:IL,v=SP i j∧IntN u' i (a / D) (K+3)∧IntN u' j (cdiv b D) (K+3)):=by
 refine zzm Tryz.func183 rfl Tryz.ntmps183 Tryz.results183 d ?_
 refine sq9 (zzk 2 ⟨144,i.cs++j.cs⟩ (zzk 3 ⟨26,l.cs⟩ (zzk 4 ⟨144,[.bool false,qyn,.bool false,qyn]⟩ (zzb (sq9 (zza 12 (.adr 2 0) (zzi 13 (.v (i.v)) ty26 zze (zzi 14 (.v (l.v)) ty26 zze (zzg 15 180 _ fun _ _ af ax=>qym (k_intDivI ax (hi.ext af).raw (hl.ext af) hD xq xq) ?_)))))))))
 rintro _ u16 ap ⟨aa,aj,rfl,am,h15⟩
 refine zza 11 (.v (.tuple #[aa.v,aj.v,.int .i64 0])) (zza 16 (.v (aa.v)) (zza 17 (.v (aj.v)) (zza 18 (zI 0) (zzk 5 ⟨26,[.bool false,qyn]⟩ (zzk 6 ⟨26,[.bool false,qyn]⟩ (zzj ⟨26,aa.cs⟩ ty26 ?_))))))
 refine zzj ⟨26,aj.cs⟩ ty26 ?_
 refine zza 7 (zI 0) (zzb (sq9 (zza 20 (.adr 2 2) (zzi 21 (.v (j.v)) ty26 zze (zzi 22 (.v (l.v)) ty26 zze (zzg 23 180 _ fun _ _ ai aD=>qym (k_intDivI aD (hj.ext (af.t (ap.t ai))).raw (hl.ext (af.t (ap.t ai))) hD xq xq) ?_))))))
 rintro _ u24 an ⟨ab,ah,rfl,ao,aB⟩
 refine zza 19 (.v (.tuple #[ab.v,ah.v,.int .i64 0])) (zza 24 (.v (ab.v)) (zza 25 (.v (ah.v)) (zza 26 (zI 0) (zzk 8 ⟨26,[.bool false,qyn]⟩ (zzk 9 ⟨26,[.bool false,qyn]⟩ (zzj ⟨26,ab.cs⟩ ty26 ?_))))))
 refine zzj ⟨26,ah.cs⟩ ty26 ?_
 refine zza 10 (zI 0) (zzb (zzd (sq9 (zzi 27 (.v (ah.v)) ty26 zze (zzg 28 74 _ fun _ _ ae aE=>qym (k_intSign aE (aB.ext ae).raw) ?_)))))
 rintro _ u28 ag rfl
 refine zza 29 (zB ((cmpS (b%D) 0) != 0)) (zzc 36 [(4,.adr 4 0),(5,.adr 5 0),(8,.adr 8 0),(29,zB ((cmpS (b%D) 0) != 0))] [(4,⟨144,[.bool false,qyn,.bool false,qyn]⟩),(5,⟨26,aa.cs⟩),(8,⟨26,ab.cs⟩)] (zzu (b:=(cmpS (b%D) 0) != 0) xj (fun ac=>?_) (fun ac=>?_)))
 ·refine zzz [0,0,3,7] [(0,[]),(1,[]),(2,[]),(3,[])] xj xj (zzi 30 (.v (ab.v)) ty26 zze (zzg 31 72 _ fun _ _ al aw=>qym (k_intOf aw (z:=1) xq xq) ?_))
  rintro _ u35 ar ⟨i33,rfl,av⟩
  refine zzg 32 79 _ fun _ _ ak ay=>qym (k_intAdd ay (ao.ext (ae.t (ag.t (al.t (ar.t ak))))).raw (av.ext ak).raw xq xq) ?_
  rintro _ u41 aA ⟨ad,rfl,aC⟩
  refine zzj ⟨26,ad.cs⟩ ty26 ?_
  refine zzb (sq9 (zzi 33 (.v (aa.v)) ty26 zze (zzi 34 (.v (ad.v)) ty26 zze (zza 35 (.v (.agg #[.bool aa.s,aa.m.v,.bool ad.s,ad.m.v])) (zzj ⟨144,aa.cs++ad.cs⟩ ty144 ?_)))))
  refine zzb (zzo (ret0 [.agg #[.bool aa.s,aa.m.v,.bool ad.s,ad.m.v]] ⟨zzr ty144 zze,trivial⟩ fun u44 au=>?_))
  have h8:¬b%D=0:=by intro h7;rw[h7] at ac;exact absurd ac yq
  rw[cd_eq1 hD h8]
  refine ⟨aa,ad,rfl,IntN.more (K:=(K+1)) ?_ xq,IntN.more (K:=(max (K+1) 2+1)) ?_ xq⟩
  ·exact (am.ext (ai.t (an.t (ae.t (ag.t (al.t (ar.t (ak.t (aA.t au)))))))))
  exact (aC.ext au)
 refine zzs (zzp ?_)
 refine sq9 (zzi 33 (.v (aa.v)) ty26 zze (zzi 34 (.v (ab.v)) ty26 zze (zza 35 (.v (.agg #[.bool aa.s,aa.m.v,.bool ab.s,ab.m.v])) (zzj ⟨144,aa.cs++ab.cs⟩ ty144 ?_))))
 refine zzb (zzo (ret0 [.agg #[.bool aa.s,aa.m.v,.bool ab.s,ab.m.v]] ⟨zzr ty144 zze,trivial⟩ fun u46 aq=>?_))
 have h8:b%D=0:=by rw[cmp_ne] at ac;simpa using ac
 rw[cd_eq0 hD h8]
 refine ⟨aa,ab,rfl,IntN.more (K:=(K+1)) ?_ xq,IntN.more (K:=(K+1)) ?_ xq⟩
 ·exact (am.ext (ai.t (an.t (ae.t (ag.t aq)))))
 exact (ao.ext (ae.t (ag.t aq)))
theorem k_eProd {u w:World} {i j:IL} {a b:Int} {K:Nat} {k l:IL} {e f:Int} {L p:Nat} (d:Dat u w) (hi:IntN u i a K) (hj:IntN u j b K) (hk:IntN u k e L) (hl:IntN u l f L) (hK:K≤400000) (hL:L≤400000) (hp:p≤60000):qyc 184 #[SP i j,SP k l,.int .i64 (p:Int)] w (Post u w fun v u'=>∃i j:IL,v=SP i j∧IntN u' i (a*e / Nt.u2 p) (K+L+3)∧IntN u' j (cdiv (b*f) (Nt.u2 p)) (K+L+3)):=by
 refine zzm Tryz.func184 rfl Tryz.ntmps184 Tryz.results184 d ?_
 refine sq9 (zzk 3 ⟨144,i.cs++j.cs⟩ (zzk 4 ⟨144,k.cs++l.cs⟩ (zzk 6 ⟨144,[.bool false,qyn,.bool false,qyn]⟩ (zzb (zzd (zzz [0,1,0,4,15,0,32,0,128,511,1023,0,3071,7167,16383,32767] [(0,[]),(1,[]),(2,[]),(3,[]),(5,[]),(6,[]),(7,[]),(8,[]),(11,[]),(4,[]),(9,[]),(10,[]),(12,[]),(13,[]),(14,[]),(15,[])] xj xj (zza 7 (.adr 3 0) (zzi 8 (.v (i.v)) ty26 zze (zza 9 (.adr 4 0) (zzi 10 (.v (k.v)) ty26 zze (zza 12 (.adr 3 2) ?_)))))))))))
 refine zzi 13 (.v (j.v)) ty26 zze (zza 14 (.adr 4 2) (zzi 15 (.v (l.v)) ty26 zze (zza 18 (zI p) (zzg 11 75 _ fun _ _ ab am=>qym (k_intMul am (hi.ext ab).raw (hk.ext ab).raw xq xq) ?_))))
 rintro _ u14 af ⟨ah,rfl,al⟩
 refine zzg 16 75 _ fun _ _ ad an=>qym (k_intMul an (hj.ext (ab.t (af.t ad))).raw (hl.ext (ab.t (af.t ad))).raw xq xq) ?_
 rintro _ u20 aw ⟨ag,rfl,ax⟩
 refine zza 17 (.v (.agg #[.bool ah.s,ah.m.v,.bool ag.s,ag.m.v])) (zzg 19 143 _ fun _ _ ai au=>qym (k_eUnit (k:=p) au xq) ?_)
 rintro _ u26 aj ⟨ar,rfl,ap⟩
 refine zza 20 (.v (ar.v)) (zzg 21 183 _ fun _ _ ae ao=>qym (k_eOver ao (al.ext (ad.t (aw.t (ai.t (aj.t ae))))) (ax.ext (ai.t (aj.t ae))) (ap.ext ae) (u2_pos p) xq xq) ?_)
 rintro _ u34 g35 ⟨aa,ac,rfl,av,aq⟩
 refine zzj ⟨144,aa.cs++ac.cs⟩ ty144 ?_
 refine zzb (zzo (ret0 [.agg #[.bool aa.s,aa.m.v,.bool ac.s,ac.m.v]] ⟨zzr ty144 zze,trivial⟩ fun u37 ak=>?_))
 refine ⟨aa,ac,rfl,IntN.more (K:=((K+L)+3)) ?_ xq,IntN.more (K:=((K+L)+3)) ?_ xq⟩
 ·exact (av.ext ak)
 exact (aq.ext ak)
theorem k_eWider {u w:World} {i j:IL} {a b:Int} {K:Nat}  (d:Dat u w) (hi:IntN u i a K) (hj:IntN u j b K)  (hK:K≤1000000)  : qyc 188 #[SP i j] w (Post u w fun v u'=>∃i j:IL,v=SP i j∧IntN u' i (a - 1) (K+3)∧IntN u' j (b+1) (K+3)):=by
 refine zzm Tryz.func188 rfl Tryz.ntmps188 Tryz.results188 d ?_
 refine sq9 (zzk 1 ⟨144,i.cs++j.cs⟩ (zzk 2 ⟨144,[.bool false,qyn,.bool false,qyn]⟩ (zzb (sq9 (zzg 4 72 _ fun _ _ ag ak=>qym (k_intOf ak (z:=1) xq xq) ?_)))))
 rintro _ u14 ai ⟨ad,rfl,af⟩
 refine zzk 3 ⟨26,[.bool false,qyn]⟩ (zzj ⟨26,ad.cs⟩ ty26 ?_)
 refine zzb (zzd (zzz [0,1,0,7,0,16,0,127,255,511] [(0,[]),(1,[]),(2,[]),(4,[]),(5,[]),(6,[]),(3,[]),(7,[]),(8,[]),(9,[])] xj xj (zza 5 (.adr 1 0) (zzi 6 (.v (i.v)) ty26 zze (zzi 7 (.v (ad.v)) ty26 zze (zza 9 (.adr 1 2) (zzi 10 (.v (j.v)) ty26 zze (zzi 11 (.v (ad.v)) ty26 zze (zzg 8 206 _ fun _ _ ac al=>qym (k_intSub al (hi.ext (ag.t (ai.t ac))).raw (af.ext ac).raw xq xq) ?_)))))))))
 rintro _ u20 aj ⟨aa,rfl,ap⟩
 refine zzg 12 79 _ fun _ _ ae ao=>qym (k_intAdd ao (hj.ext (ag.t (ai.t (ac.t (aj.t ae))))).raw (af.ext (ac.t (aj.t ae))).raw xq xq) ?_
 rintro _ u26 an ⟨ab,rfl,am⟩
 refine zza 13 (.v (.agg #[.bool aa.s,aa.m.v,.bool ab.s,ab.m.v])) (zzj ⟨144,aa.cs++ab.cs⟩ ty144 ?_)
 refine zzb (zzo (ret0 [.agg #[.bool aa.s,aa.m.v,.bool ab.s,ab.m.v]] ⟨zzr ty144 zze,trivial⟩ fun u29 ah=>?_))
 refine ⟨aa,ab,rfl,IntN.more (K:=(max K 2+1)) ?_ xq,IntN.more (K:=(max K 2+1)) ?_ xq⟩
 ·exact (ap.ext (ae.t (an.t ah)))
 exact (am.ext ah)
theorem k_eTiny {u w:World} {i j:IL} {a b:Int} {K:Nat}  (d:Dat u w) (hi:IntN u i a K) (hj:IntN u j b K)  (hK:K≤1000000)  : qyc 187 #[SP i j] w (Post u w fun v u'=>v=.bool (decide (b≤1))):=by
 refine zzm Tryz.func187 rfl Tryz.ntmps187 Tryz.results187 d ?_
 refine sq9 (zzk 1 ⟨144,i.cs++j.cs⟩ (zza 2 (zB false) (zzb (zzd (zzz [0,1,0,7,15,31] [(0,[]),(1,[]),(2,[]),(3,[]),(4,[]),(5,[])] xj xj (zza 3 (.adr 1 2) (zzi 4 (.v (j.v)) ty26 zze (zzg 5 72 _ fun _ _ ae ab=>qym (k_intOf ab (z:=1) xq xq) ?_))))))))
 rintro _ u14 af ⟨i12,rfl,ad⟩
 refine zzg 6 167 _ fun _ _ aa ac=>qym (k_intCompare ac (hj.ext (ae.t (af.t aa))).raw (ad.ext aa).raw) ?_
 rintro _ u18 g19 rfl
 refine zza 7 (zB (decide ((cmpS b 1)≤0))) (zza 2 (zB (decide ((cmpS b 1)≤0))) (zzb (zzo (ret0 [.bool (decide ((cmpS b 1)≤0))] ⟨zzq,trivial⟩ fun u21 e22=>?_))))
 show Value.bool _=Value.bool _
 rw[cmp_le]
theorem k_arctan {u w:World} {n k:Nat} (d:Dat u w) (hn:2≤n) (hn2:n≤1000) (hk:k≤800):qyc 205 #[.int .i64 (n:Int),.int .i64 (k:Int)] w (Post u w fun v u'=>∃ (i j:IL) (a b:Int),v=SP i j∧IntN u' i a 42∧IntN u' j b 42∧AtR n k a b):=by
 have hN2:4≤n*n:=Nat.mul_le_mul hn hn
 have hN3:n*n≤1000000:=Nat.mul_le_mul hn2 hn2
 have hnn : -9223372036854775808≤(n:Int)*(n:Int)∧(n:Int)*(n:Int)≤9223372036854775807:=by rw[← Int.natCast_mul];omega
 have hbig:=big hk
 have hu2:=u2_pos k
 refine zzm Tryz.func205 rfl Tryz.ntmps205 Tryz.results205 d ?_
 refine sq9 (zzk 4 ⟨144,[.bool false,qyn,.bool false,qyn]⟩ (zzb (sq9 (zza 9 (zI k) (zzg 10 143 _ fun _ _ _ a7=>qym (k_eUnit (k:=k) a7 xq) ?_)))))
 rintro _ u14 g15 ⟨i12,rfl,aZ⟩
 refine zza 11 (zI n) (zzg 12 72 _ fun _ _ aS bl=>qym (k_intOf bl (z:=(n:Int)) xq xq) ?_)
 rintro _ u20 aV ⟨i18,rfl,bs⟩
 refine zzg 13 183 _ fun _ _ aR a9=>qym (k_eOver a9 (aZ.ext (aS.t (aV.t aR))) (aZ.ext (aS.t (aV.t aR))) (bs.ext aR) xq xq xq) ?_
 rintro _ bg g29 ⟨aB,aA,rfl,aT,a1⟩
 refine zzk 5 ⟨144,[.bool false,qyn,.bool false,qyn]⟩ (zzj ⟨144,aB.cs++aA.cs⟩ ty144 ?_)
 refine zzb (sq9 (zzi 14 (.v (.agg #[.bool aB.s,aB.m.v,.bool aA.s,aA.m.v])) ty144 zze (zzk 6 ⟨144,[.bool false,qyn,.bool false,qyn]⟩ (zzj ⟨144,aB.cs++aA.cs⟩ ty144 ?_))))
 refine zzb (sq9 (zza 7 (zI 3) (zzb (zzt (zyn (I:=fun a0 S' u'=>∃ (j:Nat) (x1:IL) (x2:IL) (y1:IL) (y2:IL) (a:Int) (b:Int) (cc:Int) (dd:Int),(a0=b.toNat)∧(AtI n k j a b cc dd)∧(S'=St.of 40 [(0,zI n),(4,.adr 4 0),(5,.adr 5 0),(6,.adr 6 0),(7,zI (2*j+3:Nat))] [(4,⟨144,[.bool false,qyn,.bool false,qyn]⟩),(5,⟨144,x1.cs++x2.cs⟩),(6,⟨144,y1.cs++y2.cs⟩)])∧(Ext bg u')∧(IntN u' x1 a 40)∧(IntN u' x2 b 40)∧(IntN u' y1 cc 40)∧(IntN u' y2 dd 40)) (fun m S u1 u2 e h=>by obtain ⟨j,x1,x2,y1,y2,a,b,cc,dd,hm,p0,hS,hE,f0,f1,f2,f3⟩:=h;exact ⟨j,x1,x2,y1,y2,a,b,cc,dd,hm,p0,hS,hE.trans e,f0.ext e,f1.ext e,f2.ext e,f3.ext e⟩) _ yk ⟨0,aB,aA,aB,aA,((Nt.u2 k) / (n:Int)),(cdiv (Nt.u2 k) (n:Int)),((Nt.u2 k) / (n:Int)),(cdiv (Nt.u2 k) (n:Int)),rfl,(AtI.start xq),rfl,(Ext.refl _),(IntN.lim aT (by have h8:=(AtI.start (n:=n) (w:=k) xq).bd xq;omega) (by have h8:=(AtI.start (n:=n) (w:=k) xq).bd xq;omega)),(IntN.lim a1 (by have h8:=(AtI.start (n:=n) (w:=k) xq).bd xq;have h9:=(AtI.start (n:=n) (w:=k) xq).p1;omega) (by have h8:=(AtI.start (n:=n) (w:=k) xq).bd xq;omega)),(IntN.lim aT (by have h8:=(AtI.start (n:=n) (w:=k) xq).bd xq;omega) (by have h8:=(AtI.start (n:=n) (w:=k) xq).bd xq;omega)),(IntN.lim a1 (by have h8:=(AtI.start (n:=n) (w:=k) xq).bd xq;have h9:=(AtI.start (n:=n) (w:=k) xq).p1;omega) (by have h8:=(AtI.start (n:=n) (w:=k) xq).bd xq;omega))⟩ ?_)))))
 rintro a0 _ u31 ⟨j,x1,x2,y1,y2,a,b,cc,dd,bh,hI,rfl,aU,f0,f1,f2,f3⟩
 have hjw:=hI.jw
 refine zzd (zzt (zzd (zzz [0,0,0,6,14,31,63] [(0,[]),(1,[]),(2,[]),(3,[]),(4,[]),(5,[]),(6,[])] xj xj (zzi 17 (.v (.agg #[.bool x1.s,x1.m.v,.bool x2.s,x2.m.v])) ty144 zze (zza 18 (zI n) (zza 19 (zI n) (zyq 20 (x:=zI (IntKind.i64.wrap ((n:Int)*(n:Int)))) (zI (((n*n:Nat):Int))) (by rw[show (IntKind.i64.wrap ((n:Int)*(n:Int)))=((n*n:Nat):Int) from (by rw[IntWalk.i64_in _ hnn];rfl)]) (zzg 21 72 _ fun _ _ ar ba=>qym (k_intOf ba (z:=((n*n:Nat):Int)) xq xq) ?_))))))))
 rintro _ u35 aq ⟨i33,rfl,bj⟩
 refine zzg 22 183 _ fun _ _ ap bk=>qym (k_eOver bk (f0.ext (ar.t (aq.t ap))) (f1.ext (ar.t (aq.t ap))) (bj.ext ap) xq xq xq) ?_
 rintro _ u43 aC ⟨av,aw,rfl,aO,aQ⟩
 refine zzj ⟨144,av.cs++aw.cs⟩ ty144 ?_
 refine zzb (zzd (zzz [0,0,2,7,0,31] [(0,[]),(1,[]),(4,[]),(2,[]),(3,[]),(5,[])] xj xj (zzi 23 (.v (.agg #[.bool av.s,av.m.v,.bool aw.s,aw.m.v])) ty144 zze (zza 24 (zI (2*j+3:Nat)) (zzk 8 ⟨144,[.bool false,qyn,.bool false,qyn]⟩ (zzg 25 72 _ fun _ _ ad bn=>qym (k_intOf bn (z:=((2*j+3:Nat):Int)) xq xq) ?_))))))
 rintro _ u49 ac ⟨i47,rfl,a6⟩
 refine zzg 26 183 _ fun _ _ ab bo=>qym (k_eOver bo (aO.ext (ad.t (ac.t ab))) (aQ.ext (ad.t (ac.t ab))) (a6.ext ab) xq xq xq) ?_
 rintro _ u57 aj ⟨ah,af,rfl,aN,aL⟩
 refine zzj ⟨144,ah.cs++af.cs⟩ ty144 ?_
 refine zzb (zzd (sq9 (zza 27 (zI (2*j+3:Nat)) (zza 28 (zI (Int.tmod ((2*j+3:Nat):Int) 4)) (zza 29 (zB ((Int.tmod ((2*j+3:Nat):Int) 4)==3)) (zzb (zzu (b:=(Int.tmod ((2*j+3:Nat):Int) 4)==3) xj (fun au=>?_) (fun au=>?_))))))))
 ·have ae:Int.tmod ((2*j+3:Nat):Int) 4=((2*j+3:Nat):Int)%4:=Int.tmod_eq_emod_of_nonneg xq
  have aa :  j%2=0:=by have h9:=au;rw[ae] at h9;simp at h9;omega
  refine zzf (zzi 30 (.v (.agg #[.bool y1.s,y1.m.v,.bool y2.s,y2.m.v])) ty144 zze (zzi 31 (.v (.agg #[.bool ah.s,ah.m.v,.bool af.s,af.m.v])) ty144 zze (zzg 32 185 _ fun _ _ ak bc=>qym (k_eSub bc (f2.ext (ar.t (aq.t (ap.t (aC.t (ad.t (ac.t (ab.t (aj.t ak))))))))) (f3.ext (ar.t (aq.t (ap.t (aC.t (ad.t (ac.t (ab.t (aj.t ak))))))))) (aN.ext ak) (aL.ext ak) xq xq) ?_)))
  rintro _ u66 aE ⟨aH,i64,rfl,aX,aY⟩
  refine zzj ⟨144,aH.cs++i64.cs⟩ ty144 ?_
  refine zzc 40 [(0,zI n),(4,.adr 4 0),(5,.adr 5 0),(6,.adr 6 0),(7,zI (2*j+3:Nat)),(8,.adr 8 0)] [(4,⟨144,[.bool false,qyn,.bool false,qyn]⟩),(5,⟨144,av.cs++aw.cs⟩),(6,⟨144,aH.cs++i64.cs⟩),(8,⟨144,ah.cs++af.cs⟩)] (sq9 (zzi 36 (.v (.agg #[.bool ah.s,ah.m.v,.bool af.s,af.m.v])) ty144 zze (zzg 37 187 _ fun _ _ al be=>qym (k_eTiny be (aN.ext (ak.t (aE.t al))) (aL.ext (ak.t (aE.t al))) xq) ?_)))
  rintro _ u70 ax rfl
  refine zzb (zzu (b:=decide ((cdiv (cdiv b ((n*n:Nat):Int)) ((2*j+3:Nat):Int))≤1)) xj (fun ag=>?_) (fun ag=>?_))
  ·have qhb73:=qyt ag
   refine sq9 (zzi 38 (.v (.agg #[.bool aH.s,aH.m.v,.bool i64.s,i64.m.v])) ty144 zze (zzg 39 188 _ fun _ _ a5 br=>qym (k_eWider br (aX.ext (al.t (ax.t a5))) (aY.ext (al.t (ax.t a5))) xq) ?_))
   rintro _ u79 g80 ⟨aK,aJ,rfl,bt,bu⟩
   refine zzj ⟨144,aK.cs++aJ.cs⟩ ty144 ?_
   refine zzb (zzo (zyu (zzw (zyt (zyu (ret0 [.agg #[.bool aK.s,aK.m.v,.bool aJ.s,aJ.m.v]] ⟨zzr ty144 zze,trivial⟩ fun u82 a3=>?_))))))
   have ho:=hI.out xq (qyt ag) (hI.sub xq aa) (by have h9:=hI.tw xq;omega)
   have hob:=atR_bd ho xq
   exact ⟨aK,aJ,_,_,rfl,IntN.lim2 (bt.ext a3) xq xq,IntN.lim2 (bu.ext a3) xq xq,ho⟩
  have qhb73:=qyf ag
  refine zzs (zzp ?_)
  refine zzf (zza 15 (zI (2*j+3:Nat)) (qwi 16 (((2*j+3:Nat):Int)+2) (((2*j+3)+2:Nat):Int) xz (zza 7 (zI (((2*j+3)+2:Nat):Int)) (zzx ?_))))
  have hgo:=hI.go xq (by have h9:=qyf ag;omega) (hI.sub xq aa) (by have h9:=hI.tw xq;omega)
  have hb:=hgo.1.bd xq
  have hp0:=hgo.1.p0
  have hp1:=hgo.1.p1
  have hple:=hgo.1.p.le
  have hpp:=hI.p1
  refine ⟨_,?_,_,by exact zzv _ _ _,j+1,av,aw,aH,i64,(a / ((n*n:Nat):Int)),(cdiv b ((n*n:Nat):Int)),(cc - (cdiv (cdiv b ((n*n:Nat):Int)) ((2*j+3:Nat):Int))),(dd - ((a / ((n*n:Nat):Int)) / ((2*j+3:Nat):Int))),rfl,hgo.1,rfl,(aU.t (ar.t (aq.t (ap.t (aC.t (ad.t (ac.t (ab.t (aj.t (ak.t (aE.t (al.t ax.ext)))))))))))),(IntN.lim (aO.ext (ad.t (ac.t (ab.t (aj.t (ak.t (aE.t (al.t ax.ext)))))))) xq xq),(IntN.lim (aQ.ext (ad.t (ac.t (ab.t (aj.t (ak.t (aE.t (al.t ax.ext)))))))) xq xq),(IntN.lim (aX.ext (al.t ax.ext)) xq xq),(IntN.lim (aY.ext (al.t ax.ext)) xq xq)⟩
  omega
 have ae:Int.tmod ((2*j+3:Nat):Int) 4=((2*j+3:Nat):Int)%4:=Int.tmod_eq_emod_of_nonneg xq
 have aa:¬j%2=0:=by have h9:=au;rw[ae] at h9;simp at h9;omega
 refine zzf (zzi 33 (.v (.agg #[.bool y1.s,y1.m.v,.bool y2.s,y2.m.v])) ty144 zze (zzi 34 (.v (.agg #[.bool ah.s,ah.m.v,.bool af.s,af.m.v])) ty144 zze (zzg 35 186 _ fun _ _ an bw=>qym (k_eAdd bw (f2.ext (ar.t (aq.t (ap.t (aC.t (ad.t (ac.t (ab.t (aj.t an))))))))) (f3.ext (ar.t (aq.t (ap.t (aC.t (ad.t (ac.t (ab.t (aj.t an))))))))) (aN.ext an) (aL.ext an) xq xq) ?_)))
 rintro _ u89 aI ⟨aF,aD,rfl,a4,a2⟩
 refine zzj ⟨144,aF.cs++aD.cs⟩ ty144 ?_
 refine zzc 40 [(0,zI n),(4,.adr 4 0),(5,.adr 5 0),(6,.adr 6 0),(7,zI (2*j+3:Nat)),(8,.adr 8 0)] [(4,⟨144,[.bool false,qyn,.bool false,qyn]⟩),(5,⟨144,av.cs++aw.cs⟩),(6,⟨144,aF.cs++aD.cs⟩),(8,⟨144,ah.cs++af.cs⟩)] (sq9 (zzi 36 (.v (.agg #[.bool ah.s,ah.m.v,.bool af.s,af.m.v])) ty144 zze (zzg 37 187 _ fun _ _ ao bb=>qym (k_eTiny bb (aN.ext (an.t (aI.t ao))) (aL.ext (an.t (aI.t ao))) xq) ?_)))
 rintro _ u93 ay rfl
 refine zzb (zzu (b:=decide ((cdiv (cdiv b ((n*n:Nat):Int)) ((2*j+3:Nat):Int))≤1)) xj (fun ai=>?_) (fun ai=>?_))
 ·have qhb96:=qyt ai
  refine sq9 (zzi 38 (.v (.agg #[.bool aF.s,aF.m.v,.bool aD.s,aD.m.v])) ty144 zze (zzg 39 188 _ fun _ _ aW bf=>qym (k_eWider bf (a4.ext (ao.t (ay.t aW))) (a2.ext (ao.t (ay.t aW))) xq) ?_))
  rintro _ bi bv ⟨aM,am,rfl,a8,aP⟩
  refine zzj ⟨144,aM.cs++am.cs⟩ ty144 ?_
  refine zzb (zzo (zyu (zzw (zyt (zyu (ret0 [.agg #[.bool aM.s,aM.m.v,.bool am.s,am.m.v]] ⟨zzr ty144 zze,trivial⟩ fun bq aG=>?_))))))
  have ho:=hI.out xq (qyt ai) (hI.add xq aa) (by have h9:=hI.tw xq;omega)
  have hob:=atR_bd ho xq
  exact ⟨aM,am,_,_,rfl,IntN.lim2 (a8.ext aG) xq xq,IntN.lim2 (aP.ext aG) xq xq,ho⟩
 have qhb96:=qyf ai
 refine zzs (zzp ?_)
 refine zzf (zza 15 (zI (2*j+3:Nat)) (qwi 16 (((2*j+3:Nat):Int)+2) (((2*j+3)+2:Nat):Int) xz (zza 7 (zI (((2*j+3)+2:Nat):Int)) (zzx ?_))))
 have hgo:=hI.go xq (by have h9:=qyf ai;omega) (hI.add xq aa) (by have h9:=hI.tw xq;omega)
 have hb:=hgo.1.bd xq
 have hp0:=hgo.1.p0
 have hp1:=hgo.1.p1
 have hple:=hgo.1.p.le
 have hpp:=hI.p1
 refine ⟨_,?_,_,by exact zzv _ _ _,j+1,av,aw,aF,aD,(a / ((n*n:Nat):Int)),(cdiv b ((n*n:Nat):Int)),(cc+((a / ((n*n:Nat):Int)) / ((2*j+3:Nat):Int))),(dd+(cdiv (cdiv b ((n*n:Nat):Int)) ((2*j+3:Nat):Int))),rfl,hgo.1,rfl,(aU.t (ar.t (aq.t (ap.t (aC.t (ad.t (ac.t (ab.t (aj.t (an.t (aI.t (ao.t ay.ext)))))))))))),(IntN.lim (aO.ext (ad.t (ac.t (ab.t (aj.t (an.t (aI.t (ao.t ay.ext)))))))) xq xq),(IntN.lim (aQ.ext (ad.t (ac.t (ab.t (aj.t (an.t (aI.t (ao.t ay.ext)))))))) xq xq),(IntN.lim (a4.ext (ao.t ay.ext)) xq xq),(IntN.lim (a2.ext (ao.t ay.ext)) xq xq)⟩
 omega
theorem k_ePi {u w:World} {k:Nat} (d:Dat u w) (hk0:16≤k) (hk:k≤800):qyc 181 #[.int .i64 (k:Int)] w (Post u w fun v u'=>∃ (i j:IL) (a b:Int),v=SP i j∧IntN u' i a 42∧IntN u' j b 42∧PiR k a b):=by
 have hbig:=big hk
 have hu2:=u2_pos k
 refine zzm Tryz.func181 rfl Tryz.ntmps181 Tryz.results181 d ?_
 refine sq9 (zzk 2 ⟨144,[.bool false,qyn,.bool false,qyn]⟩ (zzb (sq9 (zza 3 (zI k) (zzg 4 205 _ fun _ _ _ aw=>qym (k_arctan aw (n:=5) (k:=k) xq xq xq) ?_)))))
 rintro _ u13 g14 ⟨ar,ap,aJ,aH,rfl,aj,ae,ai⟩
 refine zzg 5 182 _ fun _ _ am aK=>qym (k_eTimes aK (aj.ext am) (ae.ext am) (n9:=16) xq xq) ?_
 rintro _ u21 g22 ⟨i17,i19,rfl,aB,aD⟩
 refine zza 6 (zI k) (zzg 7 205 _ fun _ _ ao aA=>qym (k_arctan aA (n:=239) (k:=k) xq xq xq) ?_)
 rintro _ u26 ak ⟨aC,aG,ax,aF,rfl,af,ah,ag⟩
 refine zzg 8 182 _ fun _ _ aa ay=>qym (k_eTimes ay (af.ext aa) (ah.ext aa) (n9:=4) xq xq) ?_
 rintro _ u34 an ⟨i30,i32,rfl,aI,aE⟩
 refine zzg 9 185 _ fun _ _ ac av=>qym (k_eSub av (aB.ext (ao.t (ak.t (aa.t (an.t ac))))) (aD.ext (ao.t (ak.t (aa.t (an.t ac))))) (aI.ext ac) (aE.ext ac) xq xq) ?_
 rintro _ u42 g43 ⟨ad,ab,rfl,aq,au⟩
 refine zzj ⟨144,ad.cs++ab.cs⟩ ty144 ?_
 refine zzb (zzo (ret0 [.agg #[.bool ad.s,ad.m.v,.bool ab.s,ab.m.v]] ⟨zzr ty144 zze,trivial⟩ fun u45 al=>?_))
 have hP:=PiR.of ai ag
 have hb9:=hP.bd hk0
 exact ⟨ad,ab,_,_,rfl,IntN.lim2 (aq.ext al) xq xq,IntN.lim2 (au.ext al) xq xq,hP⟩
theorem k_cosineOf {u w:World} {p q k:Nat} (d:Dat u w) (hq0:0<q) (hq:q≤100000) (hp:2*p≤q) (hp1:1≤p) (hk0:16≤k) (hk:k≤800):qyc 150 #[.int .i64 (p:Int),.int .i64 (q:Int),.int .i64 (k:Int)] w (Post u w fun v u'=>∃ (i j:IL) (a b:Int),v=SP i j∧IntN u' i a 42∧IntN u' j b 42∧CsR p q k a b):=by
 have hbig:=big hk
 have hu2:=u2_pos k
 refine zzm Tryz.func150 rfl Tryz.ntmps150 Tryz.results150 d ?_
 refine sq9 (zzk 6 ⟨144,[.bool false,qyn,.bool false,qyn]⟩ (zzb (sq9 (zza 12 (zI k) (zzg 13 181 _ fun _ _ _ bl=>qym (k_ePi bl (k:=k) xq xq) ?_)))))
 rintro _ u13 g14 ⟨bu,bk,al,ao,rfl,aY,a0,a6⟩
 refine zza 14 (zI p) (zzg 15 182 _ fun _ _ bc bO=>qym (k_eTimes bO (aY.ext bc) (a0.ext bc) (n9:=p) xq xq) ?_)
 rintro _ u21 g22 ⟨i17,i19,rfl,bJ,bL⟩
 refine zza 16 (zI q) (zzg 17 72 _ fun _ _ bj bI=>qym (k_intOf bI (z:=(q:Int)) xq xq) ?_)
 rintro _ u27 bi ⟨i25,rfl,bT⟩
 refine zzg 18 183 _ fun _ _ a4 bN=>qym (k_eOver bN (bJ.ext (bj.t (bi.t a4))) (bL.ext (bj.t (bi.t a4))) (bT.ext a4) xq xq xq) ?_
 rintro _ u35 g36 ⟨aM,aN,rfl,ba,bg⟩
 refine zzk 7 ⟨144,[.bool false,qyn,.bool false,qyn]⟩ (zzj ⟨144,aM.cs++aN.cs⟩ ty144 ?_)
 refine zzb (zzd ?_)
 have hY:CsY p q k ((al*((p:Nat):Int)) / (q:Int)) (cdiv (ao*((p:Nat):Int)) (q:Int)):=CsY.of a6 hk0 hq0 hp hp1
 refine zzf (zzi 19 (.v (.agg #[.bool aM.s,aM.m.v,.bool aN.s,aN.m.v])) ty144 zze (zzi 20 (.v (.agg #[.bool aM.s,aM.m.v,.bool aN.s,aN.m.v])) ty144 zze (zza 21 (zI k) (zzg 22 184 _ fun _ _ aV bG=>qym (k_eProd (p:=k) bG (ba.ext aV) (bg.ext aV) (ba.ext aV) (bg.ext aV) xq xq xq) ?_))))
 rintro _ u43 g44 ⟨aL,aO,rfl,bq,bD⟩
 refine zzk 8 ⟨144,[.bool false,qyn,.bool false,qyn]⟩ (zzj ⟨144,aL.cs++aO.cs⟩ ty144 ?_)
 refine zzb (zzd ?_)
 have hQ:CsQ p q k (((al*((p:Nat):Int)) / (q:Int))*((al*((p:Nat):Int)) / (q:Int)) / Nt.u2 k) (cdiv ((cdiv (ao*((p:Nat):Int)) (q:Int))*(cdiv (ao*((p:Nat):Int)) (q:Int))) (Nt.u2 k)):=CsQ.of hY
 obtain ⟨_,bh,bH,bQ,bb,bM⟩:=id hQ
 obtain ⟨ql,hql⟩:∃z:Int,(((al*((p:Nat):Int)) / (q:Int))*((al*((p:Nat):Int)) / (q:Int)) / Nt.u2 k)=z:=⟨_,rfl⟩
 obtain ⟨qh,hqh⟩:∃z:Int,(cdiv ((cdiv (ao*((p:Nat):Int)) (q:Int))*(cdiv (ao*((p:Nat):Int)) (q:Int))) (Nt.u2 k))=z:=⟨_,rfl⟩
 have hs46:=bq
 have hs47:=bD
 rw[hql] at hQ bh bH bb hs46
 rw[hqh] at hQ bh bQ bb bM hs47
 have hs48:=IntN.lim2 hs46 xq xq
 have hs49:=IntN.lim2 hs47 xq xq
 refine zzf (zza 23 (zI k) (zzg 24 143 _ fun _ _ a8 bn=>qym (k_eUnit (k:=k) bn xq) ?_))
 rintro _ bw bf ⟨ai,rfl,aU⟩
 refine zzk 9 ⟨144,[.bool false,qyn,.bool false,qyn]⟩ (zzj ⟨144,ai.cs++ai.cs⟩ ty144 ?_)
 refine zzb (sq9 (zzi 25 (.v (.agg #[.bool ai.s,ai.m.v,.bool ai.s,ai.m.v])) ty144 zze (zzk 10 ⟨144,[.bool false,qyn,.bool false,qyn]⟩ (zzj ⟨144,ai.cs++ai.cs⟩ ty144 ?_))))
 refine zzb (sq9 (zza 11 (zI 2) (zzb (zzt (zyn (I:=fun a9 S' u'=>∃ (j:Nat) (x1:IL) (x2:IL) (y1:IL) (y2:IL) (tl:Int) (th:Int) (sl:Int) (sh:Int),(a9=csM k j th)∧(CsI p q k j tl th sl sh)∧(S'=St.of 55 [(2,zI k),(6,.adr 6 0),(8,.adr 8 0),(9,.adr 9 0),(10,.adr 10 0),(11,zI (2*j+2:Nat))] [(6,⟨144,[.bool false,qyn,.bool false,qyn]⟩),(8,⟨144,aL.cs++aO.cs⟩),(9,⟨144,x1.cs++x2.cs⟩),(10,⟨144,y1.cs++y2.cs⟩)])∧(Ext bw u')∧(IntN u' x1 tl 42)∧(IntN u' x2 th 42)∧(IntN u' y1 sl 42)∧(IntN u' y2 sh 42)) (fun m S u1 u2 e h=>by obtain ⟨j,x1,x2,y1,y2,tl,th,sl,sh,hm,p0,hS,hE,f0,f1,f2,f3⟩:=h;exact ⟨j,x1,x2,y1,y2,tl,th,sl,sh,hm,p0,hS,hE.trans e,f0.ext e,f1.ext e,f2.ext e,f3.ext e⟩) _ yk ⟨0,ai,ai,ai,ai,(Nt.u2 k),(Nt.u2 k),(Nt.u2 k),(Nt.u2 k),rfl,CsI.start,rfl,(Ext.refl _),(IntN.lim2 aU xq xq),(IntN.lim2 aU xq xq),(IntN.lim2 aU xq xq),(IntN.lim2 aU xq xq)⟩ ?_)))))
 rintro a9 _ u56 ⟨j,x1,x2,y1,y2,tl,th,sl,sh,bA,hI,rfl,aJ,f0,f1,f2,f3⟩
 have hjw:=hI.c.jw
 have hD1:=coD_pos j
 have hD2:=coD_mul (j:=j) xq
 refine zzd (zzt (sq9 (zzi 28 (.v (.agg #[.bool x1.s,x1.m.v,.bool x2.s,x2.m.v])) ty144 zze (zzi 29 (.v (.agg #[.bool aL.s,aL.m.v,.bool aO.s,aO.m.v])) ty144 zze (zza 30 (zI k) (zzg 31 184 _ fun _ _ ak bB=>qym (k_eProd (p:=k) bB (f0.ext ak) (f1.ext ak) (hs48.ext (a8.t (bf.t (aJ.trans ak)))) (hs49.ext (a8.t (bf.t (aJ.trans ak)))) xq xq xq) ?_))))))
 rintro _ u62 aD ⟨i58,i60,rfl,bE,bx⟩
 refine zza 32 (zI (2*j+2:Nat)) (zza 33 (zI (2*j+2:Nat)) (qwi 34 (((2*j+2:Nat):Int) - 1) (((2*j+2) - 1:Nat):Int) xz (zyq 35 (x:=zI (IntKind.i64.wrap (((2*j+2:Nat):Int)*((2*j+2 - 1:Nat):Int)))) (zI (coD j)) (by rw[show (IntKind.i64.wrap (((2*j+2:Nat):Int)*((2*j+2 - 1:Nat):Int)))=(coD j) from hD2.1]) (zzg 36 72 _ fun _ _ av bW=>qym (k_intOf bW (z:=(coD j)) xq xq) ?_))))
 rintro _ u68 au ⟨i66,rfl,bF⟩
 refine zzg 37 183 _ fun _ _ ar bz=>qym (k_eOver bz (bE.ext (av.t (au.t ar))) (bx.ext (av.t (au.t ar))) (bF.ext ar) xq xq xq) ?_
 rintro _ u76 aB ⟨ah,ag,rfl,aC,aE⟩
 refine zzj ⟨144,ah.cs++ag.cs⟩ ty144 ?_
 refine zzc 55 [(2,zI k),(6,.adr 6 0),(8,.adr 8 0),(9,.adr 9 0),(10,.adr 10 0),(11,zI (2*j+2:Nat))] [(6,⟨144,[.bool false,qyn,.bool false,qyn]⟩),(8,⟨144,aL.cs++aO.cs⟩),(9,⟨144,ah.cs++ag.cs⟩),(10,⟨144,y1.cs++y2.cs⟩)] (zzd (sq9 (zza 38 (zI (2*j+2:Nat)) (zza 39 (zI (Int.tmod ((2*j+2:Nat):Int) 4)) (zza 40 (zB ((Int.tmod ((2*j+2:Nat):Int) 4)==2)) (zzb (zzu (b:=(Int.tmod ((2*j+2:Nat):Int) 4)==2) xj (fun aF=>?_) (fun aF=>?_))))))))
 ·have an:Int.tmod ((2*j+2:Nat):Int) 4=((2*j+2:Nat):Int)%4:=Int.tmod_eq_emod_of_nonneg xq
  have aa :  j%2=0:=by have h9:=aF;rw[an] at h9;simp at h9;omega
  refine zzf (zzi 41 (.v (.agg #[.bool y1.s,y1.m.v,.bool y2.s,y2.m.v])) ty144 zze (zzi 42 (.v (.agg #[.bool ah.s,ah.m.v,.bool ag.s,ag.m.v])) ty144 zze (zzg 43 185 _ fun _ _ aj bP=>qym (k_eSub bP (f2.ext (ak.t (aD.t (av.t (au.t (ar.t (aB.t aj))))))) (f3.ext (ak.t (aD.t (av.t (au.t (ar.t (aB.t aj))))))) (aC.ext aj) (aE.ext aj) xq xq) ?_)))
  rintro _ u85 aA ⟨aR,aQ,rfl,a1,a7⟩
  refine zzj ⟨144,aR.cs++aQ.cs⟩ ty144 ?_
  refine zzb (sq9 (zza 47 (zI (2*j+2:Nat)) (zza 48 (zB (decide ((4:Int)≤((2*j+2:Nat):Int)))) ?_)))
  rcases Bool.eq_false_or_eq_true (decide ((4:Int)≤((2*j+2:Nat):Int))) with hs88 | hs88
  ·refine qbi 49 hs88 ?_
   have qhs88:=qyt hs88
   refine zzi 50 (.v (.agg #[.bool ah.s,ah.m.v,.bool ag.s,ag.m.v])) ty144 zze ?_ (hw:=w1 2 true 49)
   refine zzg 51 187 _ (fun _ _ ay bR=>qym (k_eTiny bR (aC.ext (aj.t (aA.t ay))) (aE.ext (aj.t (aA.t ay))) xq) ?_) (hw:=w1 2 true 49)
   rintro _ u90 aI rfl
   refine zza 52 (zB (decide ((cdiv (cdiv (th*qh) (Nt.u2 k)) (coD j))≤1))) (zzb (zzu (b:=decide ((cdiv (cdiv (th*qh) (Nt.u2 k)) (coD j))≤1)) xj (fun am=>?_) (fun am=>?_)))
   ·have qhb93:=qyt am
    refine sq9 (zzi 53 (.v (.agg #[.bool aR.s,aR.m.v,.bool aQ.s,aQ.m.v])) ty144 zze (zzg 54 188 _ fun _ _ be bV=>qym (k_eWider bV (a1.ext (ay.t (aI.t be))) (a7.ext (ay.t (aI.t be))) xq) ?_))
    rintro _ u99 bs ⟨aW,aT,rfl,bU,bo⟩
    refine zzj ⟨144,aW.cs++aT.cs⟩ ty144 ?_
    refine zzb (zzo (zyu (zzw (zyt (zyu (ret0 [.agg #[.bool aW.s,aW.m.v,.bool aT.s,aT.m.v]] ⟨zzr ty144 zze,trivial⟩ fun bC aP=>?_))))))
    have ho:=hI.out hQ hq0 hp (by have h9:=qyt hs88;omega) (qyt am) (sl':=(sl - (cdiv (cdiv (th*qh) (Nt.u2 k)) (coD j)))) (sh':=(sh - ((tl*ql / Nt.u2 k) / (coD j)))) (.inl ⟨aa,rfl,rfl⟩)
    have hob:=csR_bd ho hq0 hp hk
    exact ⟨aW,aT,_,_,rfl,IntN.lim2 (bU.ext aP) xq xq,IntN.lim2 (bo.ext aP) xq xq,ho⟩
   have qhb93:=qyf am
   refine zzs (zzp ?_)
   refine zzf (zza 26 (zI (2*j+2:Nat)) (qwi 27 (((2*j+2:Nat):Int)+2) (((2*j+2)+2:Nat):Int) xz (zza 11 (zI (((2*j+2)+2:Nat):Int)) (zzx ?_))))
   have hgo:=hI.go hQ (.inr (by have h9:¬csH k j th qh≤1:=qyf am;omega)) (sl':=(sl - (cdiv (cdiv (th*qh) (Nt.u2 k)) (coD j)))) (sh':=(sh - ((tl*ql / Nt.u2 k) / (coD j)))) (.inl ⟨aa,rfl,rfl⟩)
   have hb9:=hgo.1.bd hq0 hp
   have hw9:=csW_le hk
   have ht0:=hgo.1.c.t0
   have ht1:=hgo.1.c.t1
   have htt:=hgo.1.c.tt
   have ht2:=hgo.1.c.t2
   have hmm:=hgo.2
   simp only[csL,csH] at ht0 ht1 htt ht2 hmm
   refine ⟨_,?_,_,by exact zzv _ _ _,j+1,ah,ag,aR,aQ,((tl*ql / Nt.u2 k) / (coD j)),(cdiv (cdiv (th*qh) (Nt.u2 k)) (coD j)),(sl - (cdiv (cdiv (th*qh) (Nt.u2 k)) (coD j))),(sh - ((tl*ql / Nt.u2 k) / (coD j))),rfl,hgo.1,rfl,(aJ.t (ak.t (aD.t (av.t (au.t (ar.t (aB.t (aj.t (aA.t (ay.t aI.ext)))))))))),(IntN.lim2 (aC.ext (aj.t (aA.t (ay.t aI.ext)))) xq xq),(IntN.lim2 (aE.ext (aj.t (aA.t (ay.t aI.ext)))) xq xq),(IntN.lim2 (a1.ext (ay.t aI.ext)) xq xq),(IntN.lim2 (a7.ext (ay.t aI.ext)) xq xq)⟩
   omega
  refine qbi 49 hs88 ?_
  have qhs88:=qyf hs88
  refine zzn 50 (uw 2 true false 49) (zzn 51 (uw 2 true false 49) (zza 52 (zB false) (zzb (zys xj (zzs (zzp ?_))))))
  refine zzf (zza 26 (zI (2*j+2:Nat)) (qwi 27 (((2*j+2:Nat):Int)+2) (((2*j+2)+2:Nat):Int) xz (zza 11 (zI (((2*j+2)+2:Nat):Int)) (zzx ?_))))
  have hgo:=hI.go hQ (.inl (by have h9:=qyf hs88;omega)) (sl':=(sl - (cdiv (cdiv (th*qh) (Nt.u2 k)) (coD j)))) (sh':=(sh - ((tl*ql / Nt.u2 k) / (coD j)))) (.inl ⟨aa,rfl,rfl⟩)
  have hb9:=hgo.1.bd hq0 hp
  have hw9:=csW_le hk
  have ht0:=hgo.1.c.t0
  have ht1:=hgo.1.c.t1
  have htt:=hgo.1.c.tt
  have ht2:=hgo.1.c.t2
  have hmm:=hgo.2
  simp only[csL,csH] at ht0 ht1 htt ht2 hmm
  refine ⟨_,?_,_,by exact zzv _ _ _,j+1,ah,ag,aR,aQ,((tl*ql / Nt.u2 k) / (coD j)),(cdiv (cdiv (th*qh) (Nt.u2 k)) (coD j)),(sl - (cdiv (cdiv (th*qh) (Nt.u2 k)) (coD j))),(sh - ((tl*ql / Nt.u2 k) / (coD j))),rfl,hgo.1,rfl,(aJ.t (ak.t (aD.t (av.t (au.t (ar.t (aB.t (aj.t aA.ext)))))))),(IntN.lim2 (aC.ext (aj.t aA.ext)) xq xq),(IntN.lim2 (aE.ext (aj.t aA.ext)) xq xq),(IntN.lim2 a1 xq xq),(IntN.lim2 a7 xq xq)⟩
  omega
 have an:Int.tmod ((2*j+2:Nat):Int) 4=((2*j+2:Nat):Int)%4:=Int.tmod_eq_emod_of_nonneg xq
 have aa:¬j%2=0:=by have h9:=aF;rw[an] at h9;simp at h9;omega
 refine zzf (zzi 44 (.v (.agg #[.bool y1.s,y1.m.v,.bool y2.s,y2.m.v])) ty144 zze (zzi 45 (.v (.agg #[.bool ah.s,ah.m.v,.bool ag.s,ag.m.v])) ty144 zze (zzg 46 186 _ fun _ _ ab a3=>qym (k_eAdd a3 (f2.ext (ak.t (aD.t (av.t (au.t (ar.t (aB.t ab))))))) (f3.ext (ak.t (aD.t (av.t (au.t (ar.t (aB.t ab))))))) (aC.ext ab) (aE.ext ab) xq xq) ?_)))
 rintro _ bK ad ⟨ap,aq,rfl,aH,aG⟩
 refine zzj ⟨144,ap.cs++aq.cs⟩ ty144 ?_
 refine zzb (sq9 (zza 47 (zI (2*j+2:Nat)) (zza 48 (zB (decide ((4:Int)≤((2*j+2:Nat):Int)))) ?_)))
 rcases Bool.eq_false_or_eq_true (decide ((4:Int)≤((2*j+2:Nat):Int))) with hs112 | hs112
 ·refine qbi 49 hs112 ?_
  have qhs112:=qyt hs112
  refine zzi 50 (.v (.agg #[.bool ah.s,ah.m.v,.bool ag.s,ag.m.v])) ty144 zze ?_ (hw:=w1 2 true 49)
  refine zzg 51 187 _ (fun _ _ ac a5=>qym (k_eTiny a5 (aC.ext (ab.t (ad.t ac))) (aE.ext (ab.t (ad.t ac))) xq) ?_) (hw:=w1 2 true 49)
  rintro _ bt af rfl
  refine zza 52 (zB (decide ((cdiv (cdiv (th*qh) (Nt.u2 k)) (coD j))≤1))) (zzb (zzu (b:=decide ((cdiv (cdiv (th*qh) (Nt.u2 k)) (coD j))≤1)) xj (fun ae=>?_) (fun ae=>?_)))
  ·have qhb117:=qyt ae
   refine sq9 (zzi 53 (.v (.agg #[.bool ap.s,ap.m.v,.bool aq.s,aq.m.v])) ty144 zze (zzg 54 188 _ fun _ _ aS aX=>qym (k_eWider aX (aH.ext (ac.t (af.t aS))) (aG.ext (ac.t (af.t aS))) xq) ?_))
   rintro _ br bS ⟨aw,ax,rfl,aZ,a2⟩
   refine zzj ⟨144,aw.cs++ax.cs⟩ ty144 ?_
   refine zzb (zzo (zyu (zzw (zyt (zyu (ret0 [.agg #[.bool aw.s,aw.m.v,.bool ax.s,ax.m.v]] ⟨zzr ty144 zze,trivial⟩ fun bv aK=>?_))))))
   have ho:=hI.out hQ hq0 hp (by have h9:=qyt hs112;omega) (qyt ae) (sl':=(sl+((tl*ql / Nt.u2 k) / (coD j)))) (sh':=(sh+(cdiv (cdiv (th*qh) (Nt.u2 k)) (coD j)))) (.inr ⟨aa,rfl,rfl⟩)
   have hob:=csR_bd ho hq0 hp hk
   exact ⟨aw,ax,_,_,rfl,IntN.lim2 (aZ.ext aK) xq xq,IntN.lim2 (a2.ext aK) xq xq,ho⟩
  have qhb117:=qyf ae
  refine zzs (zzp ?_)
  refine zzf (zza 26 (zI (2*j+2:Nat)) (qwi 27 (((2*j+2:Nat):Int)+2) (((2*j+2)+2:Nat):Int) xz (zza 11 (zI (((2*j+2)+2:Nat):Int)) (zzx ?_))))
  have hgo:=hI.go hQ (.inr (by have h9:¬csH k j th qh≤1:=qyf ae;omega)) (sl':=(sl+((tl*ql / Nt.u2 k) / (coD j)))) (sh':=(sh+(cdiv (cdiv (th*qh) (Nt.u2 k)) (coD j)))) (.inr ⟨aa,rfl,rfl⟩)
  have hb9:=hgo.1.bd hq0 hp
  have hw9:=csW_le hk
  have ht0:=hgo.1.c.t0
  have ht1:=hgo.1.c.t1
  have htt:=hgo.1.c.tt
  have ht2:=hgo.1.c.t2
  have hmm:=hgo.2
  simp only[csL,csH] at ht0 ht1 htt ht2 hmm
  refine ⟨_,?_,_,by exact zzv _ _ _,j+1,ah,ag,ap,aq,((tl*ql / Nt.u2 k) / (coD j)),(cdiv (cdiv (th*qh) (Nt.u2 k)) (coD j)),(sl+((tl*ql / Nt.u2 k) / (coD j))),(sh+(cdiv (cdiv (th*qh) (Nt.u2 k)) (coD j))),rfl,hgo.1,rfl,(aJ.t (ak.t (aD.t (av.t (au.t (ar.t (aB.t (ab.t (ad.t (ac.t af.ext)))))))))),(IntN.lim2 (aC.ext (ab.t (ad.t (ac.t af.ext)))) xq xq),(IntN.lim2 (aE.ext (ab.t (ad.t (ac.t af.ext)))) xq xq),(IntN.lim2 (aH.ext (ac.t af.ext)) xq xq),(IntN.lim2 (aG.ext (ac.t af.ext)) xq xq)⟩
  omega
 refine qbi 49 hs112 ?_
 have qhs112:=qyf hs112
 refine zzn 50 (uw 2 true false 49) (zzn 51 (uw 2 true false 49) (zza 52 (zB false) (zzb (zys xj (zzs (zzp ?_))))))
 refine zzf (zza 26 (zI (2*j+2:Nat)) (qwi 27 (((2*j+2:Nat):Int)+2) (((2*j+2)+2:Nat):Int) xz (zza 11 (zI (((2*j+2)+2:Nat):Int)) (zzx ?_))))
 have hgo:=hI.go hQ (.inl (by have h9:=qyf hs112;omega)) (sl':=(sl+((tl*ql / Nt.u2 k) / (coD j)))) (sh':=(sh+(cdiv (cdiv (th*qh) (Nt.u2 k)) (coD j)))) (.inr ⟨aa,rfl,rfl⟩)
 have hb9:=hgo.1.bd hq0 hp
 have hw9:=csW_le hk
 have ht0:=hgo.1.c.t0
 have ht1:=hgo.1.c.t1
 have htt:=hgo.1.c.tt
 have ht2:=hgo.1.c.t2
 have hmm:=hgo.2
 simp only[csL,csH] at ht0 ht1 htt ht2 hmm
 refine ⟨_,?_,_,by exact zzv _ _ _,j+1,ah,ag,ap,aq,((tl*ql / Nt.u2 k) / (coD j)),(cdiv (cdiv (th*qh) (Nt.u2 k)) (coD j)),(sl+((tl*ql / Nt.u2 k) / (coD j))),(sh+(cdiv (cdiv (th*qh) (Nt.u2 k)) (coD j))),rfl,hgo.1,rfl,(aJ.t (ak.t (aD.t (av.t (au.t (ar.t (aB.t (ab.t ad.ext)))))))),(IntN.lim2 (aC.ext (ab.t ad.ext)) xq xq),(IntN.lim2 (aE.ext (ab.t ad.ext)) xq xq),(IntN.lim2 aH xq xq),(IntN.lim2 aG xq xq)⟩
 omega
section
variable (P:Program) (w0:Base) (u0:World)
def MP.into (I:Nat→St→World→Prop) (Q:MP) (hI:∀m,Mono (I m)):MP where
 f e S u:=match e with | .normal=>∃m T,Weak S T∧I m T u | .goto _=>False | e=>Q.f e S u
 mono e:=by
  cases e<;>first | exact Q.mono _ | skip
  ·rintro S u u' he ⟨m,T,h1,h2⟩
   exact ⟨m,T,h1,hI m T u u' he h2⟩
  exact fun S u u' he h=>h
def MP.jump (l:Nat) (I:Nat→St→World→Prop) (n:Nat) (Q:MP) (hI:∀m,Mono (I m)):MP where
 f e S u:=match e with | .goto l'=>l'=l∧∃m,m<n∧∃T,Weak S T∧I m T u | e=>Q.f e S u
 mono e:=by
  cases e<;>first | exact Q.mono _ | skip
  rintro S u u' he ⟨hl,m,hm,T,h1,h2⟩
  exact ⟨hl,m,hm,T,h1,hI m T u u' he h2⟩
end
section
variable {P:Program} {w0:Base} {u0:World} {S T:St} {B:Tmp→Nat} {a:Act} {w u u':World} {Q:MP} {c d A R:Code}
theorem sw_goto {l:Nat} (h:Q.f (.goto l) S u):SW P w0 u0 (.goto l) S u Q:=fun B a w u' e hr=>wp_goto ⟨S,B,u',hr,Q.mono _ _ _ _ e h⟩
theorem mpg_seq {l:Nat} {c:Code} {Q:MP} (h:Q.f (.goto l) S u):(MP.seq P w0 u0 c Q).f (.goto l) S u:=h
theorem mpg_jump {l n m:Nat} {I:Nat→St→World→Prop} {Q:MP} {hI:∀m,Mono (I m)} (hm:m<n) (hw:Weak S T) (h:I m T u):(MP.jump l I n Q hI).f (.goto l) S u:=⟨rfl,m,hm,T,hw,h⟩
theorem mpr_jump {l n:Nat} {I:Nat→St→World→Prop} {Q:MP} {hI:∀m,Mono (I m)} (h:Q.f .ret S u):(MP.jump l I n Q hI).f .ret S u:=h
theorem mpi_into {m:Nat} {I:Nat→St→World→Prop} {Q:MP} {hI:∀m,Mono (I m)} (hw:Weak S T) (h:I m T u):(MP.into I Q hI).f .normal S u:=⟨m,T,hw,h⟩
theorem sw_scope {l:Nat} {I:Nat→St→World→Prop} (hI:∀m,Mono (I m)) (hf:findLabel (.seq A (.seq (.label l) R)) l=some (.seq .skip R)) (hA:SW P w0 u0 A S u (MP.into I Q hI)) (h:∀n S u,I n S u→SW P w0 u0 R S u (MP.jump l I n Q hI)):SW P w0 u0 (.scope (.seq A (.seq (.label l) R))) S u Q:=by
 intro B a w u' e hr
 let J:Nat→Act→World→Prop:=fun n a w=>∃S B u'',Rep w0 u0 S B a w u''∧I n S u''
 let μ:Act→World→Nat:=fun a w=>Classical.epsilon fun m=>J m a w∧∀k,J k a w→m≤k
 have hμ:∀a w n,J n a w→J (μ a w) a w∧μ a w≤n:=fun a w n hn=>by
  have:=Classical.epsilon_spec (p:=fun m=>J m a w∧∀k,J k a w→m≤k) (least n hn)
  exact ⟨this.1,this.2 n hn⟩
 refine wp_scope_jumps l (fun a w=>∃n,J n a w) μ hf ?_ ?_
 ·refine wp_seq (wp_mono (hA B a w u' e hr) fun ex a' w' ⟨S',B',u'',k1,k3⟩=>?_)
  cases ex with
  | normal =>
   obtain ⟨m,T',t1,t2⟩:=k3
   refine wp_seq (wp_label ?_)
   refine wp_mono (h m T' u'' t2 B' a' w' u'' (Ext.refl _) (k1.weak t1)) fun ex a' w' ⟨S',B',u'',k1,k3⟩=>?_
   cases ex with
   | goto l' =>
    obtain ⟨rfl,m,hm,T',t1,t2⟩:=k3
    exact ⟨rfl,m,T',B',u'',k1.weak t1,t2⟩
   | _=>exact ⟨S',B',u'',k1,k3⟩
  | goto l'=>exact k3.elim
  | _=>exact ⟨S',B',u'',k1,k3⟩
 rintro a w ⟨n,hn⟩
 obtain ⟨S1,B1,u1,r1,i1⟩:=(hμ a w n hn).1
 refine wp_seq (wp_skip ?_)
 refine wp_mono (h _ S1 u1 i1 B1 a w u1 (Ext.refl _) r1) fun ex a' w' ⟨S',B',u'',k1,k3⟩=>?_
 cases ex with
 | goto l' =>
  obtain ⟨rfl,m,hm,T',t1,t2⟩:=k3
  have hJ:J m a' w':=⟨T',B',u'',k1.weak t1,t2⟩
  exact ⟨rfl,⟨m,hJ⟩,Nat.lt_of_le_of_lt (hμ a' w' m hJ).2 hm⟩
 | _=>exact ⟨S',B',u'',k1,k3⟩
end
theorem sw_joinP {P:Program} {w0:Base} {u0 u:World} {S:St} {r c:Code} {Q:MP} (I:St→World→Prop) (h1:∀S' u1,Ext u u1→I S' u1→SW P w0 u0 c S' u1 Q) (h2:(∀S' u1,Ext u u1→I S' u1→SW P w0 u0 c S' u1 Q)→SW P w0 u0 r S u (MP.seq P w0 u0 c Q)):SW P w0 u0 r S u (MP.seq P w0 u0 c Q):=h2 h1
section
variable {u u':World} {L:List RL} {l:List Rat} {q:Rat} {r:RL} {K i b n c:Nat} {x:Sl}
theorem RatsV.set (h:RatsV u L l K) (hi:i<l.length) (hr:RatV u r q K):RatsV u (L.set i r) (l.set i q) K:=by
 refine ⟨by simpa using h.1,fun j hj=>?_⟩
 rw[List.length_set] at hj
 rw[qyg,qyg,List.getElem?_set,List.getElem?_set]
 by_cases e:i=j
 ·subst e
  rw[if_pos rfl,if_pos rfl,if_pos hi,if_pos (by rw[h.1];exact hi)]
  exact hr
 rw[if_neg e,if_neg e,← qyg,← qyg]
 exact h.2 j hj
theorem RatsV.zeros (u:World) (n:Nat):RatsV u (List.replicate n rl0) (List.replicate n 0) 1:=by
 refine ⟨by simp,fun i hi=>?_⟩
 rw[List.length_replicate] at hi
 rw[qyg,qyg,List.getElem?_replicate,List.getElem?_replicate,if_pos hi,if_pos hi]
 exact rat_nil _
theorem pol_data1V {t:TypeId} (h:u.heap[b]? = some (.cells (rcs L).toArray t (0,0))) (hm:L.length≤maxLen) (hL:RatsV u L l K) (hn:n=L.length):PolV u ⟨some ⟨b,0,none⟩,n,n⟩ l K:=by
 subst hn
 exact ⟨L,⟨by rw[zyy],Nat.le_refl _,hm,fun _=>⟨b,0,rfl,fun j hj=>by rw[Nat.zero_add,cells_at h];simp⟩⟩,hL⟩
end
section
variable {P:Program} {ops:Array Oper} {w0:Base} {u0:World} {S T:St} {B:Tmp→Nat} {a:Act} {w w' u u':World} {o:Oper} {p:List Tmp} {seq:Bool} {rest:List (Oper×List Tmp)} {K:St→World→Prop}
theorem Rep.pubA (h:Rep w0 u0 S B a w u) {r t:Tmp} {V:Vr} {pubs:List Tmp} (hno:NoAt S pubs) (ht:t∈pubs) (hall:∀s∈pubs,∀V',S.var s=some V'→s=t) (hr:S.reg r=some (.adr t 0)) (hv:S.var t=some V) (htn:t<S.n) :
  Rep w0 u0 ((S.unpub pubs).set r (.v (.pointer (some ⟨B t,0,none⟩)))) B a w (pubW u w [B t]):=by
 refine ⟨⟨fun s x hx=>?_,h.regs.size⟩,⟨fun s x t' hx ht'=>?_⟩,h.defers,fun s V' hV=>?_,fun s s' V1 V2 h1 h2 e=>?_,pubW_dat h.dat,h.base,pubW_grow h.grow (fun b hb=>?_),h.bel⟩
 ·by_cases e:s=r
  ·subst e
   simp only[St.set,zxc] at hx
   injection hx with hx
   subst hx
   exact h.regs.reg s (.adr t 0) hr
  simp only[St.set,upd_ne _ _ e] at hx
  exact h.regs.reg s x (zwe hx).1
 ·by_cases e:s=r
  ·subst e
   simp only[St.set,zxc] at hx
   injection hx with hx
   subst hx;cases ht'
  simp only[St.set,upd_ne _ _ e] at hx
  obtain ⟨k1,k2⟩:=zwe hx
  obtain ⟨V',hV'⟩:=h.wf.reg s x t' k1 ht'
  exact ⟨V',by show (S.unpub pubs).var t'=_;rw[unpub_var (fun hm=>k2 (hno s x t' k1 ht' hm))];exact hV'⟩
 ·obtain ⟨k1,k2⟩:=zxo hV
  obtain ⟨g1,g2,g3⟩:=h.var s V' k1
  refine ⟨g1,?_,g3⟩
  rw[pubW_out]
  ·exact g2
  intro hm
  simp at hm
  exact k2 (h.inj s t V' V k1 hv hm ▸ ht)
 ·exact h.inj s s' V1 V2 (zxo h1).1 (zxo h2).1 e
 simp at hb;subst hb;exact (h.var t V hv).2.2.1 htn
theorem sw_pubA {c0:Code} {Q:MP} {r t:Tmp} {V:Vr} (pubs:List Tmp) (hno:NoAt S pubs) (hall:(pubs.all fun s=>Nat.beq s t||(S.var s).isNone)=true) (hr:S.reg r=some (.adr t 0)) (hv:S.var t=some V) (ht:pubs.contains t=true)
  (k:∀b u1,Ext u u1→u0.heap.size≤b→(∀ob,u.heap[b]? = some ob→ob=hidO)→u1.heap[b]? = some (.cells V.cs.toArray V.ty (0,0))→SW P w0 u0 c0 ((S.unpub pubs).set r (.v (.pointer (some ⟨b,0,none⟩)))) u1 Q) (hlt:Nat.blt t S.n=true:=by kernel_rfl):SW P w0 u0 c0 S u Q:=by
 intro B a w u' e hrep
 have hm:=List.contains_iff_mem.1 ht
 obtain ⟨g1,g2,g3⟩:=hrep.var t V hv
 have hx:Ext u' (pubW u' w [B t]):=pubW_ext hrep.dat
 have hrep2:=hrep.pubA hno hm (fun s hs V' hV'=>by
  have:=List.all_eq_true.1 hall s hs
  simp only[Bool.or_eq_true,Option.isNone_iff_eq_none] at this
  rcases this with h | h
  ·exact Nat.eq_of_beq_eq_true h
  rw[hV'] at h;cases h) hr hv (Nat.le_of_ble_eq_true hlt)
 refine k (B t) (pubW u' w [B t]) (e.trans hx) (g3.1 (Nat.le_of_ble_eq_true hlt)) (fun ob hob=>?_) (by rw[pubW_in zv (zxa g2) hrep.dat.size];exact g1) B a w _ (Ext.refl _) hrep2
 by_cases hh:ob=hidO
 ·exact hh
 have:=e.vis _ ob hob hh
 rw[g2] at this;injection this with this;exact this.symm
theorem sy_fun (d:Tmp) {f:FuncId} {cs:List Operand} (vs:List Value) (k:sym P ops w0 u0 true rest (S.set d (.v (.func (.func f) #[] vs.toArray))) u K) (hw:Wants ops o S:=by exact zwf xj) (hd:o.dst=some d:=by kernel_rfl) (hop:o.op=.makeFunc (.func f) #[] cs.toArray:=by rfl) (hf:freeB S d=true:=by kernel_rfl)
  (hev:cs.map (evO S)=vs.map (fun v=>some (.v v)):=by rfl):sym P ops w0 u0 true ((o,p)::rest) S u K:=by
 refine .inr (.inr (.inl ⟨.inl rfl,fun B a w u' he hrep=>⟨hw B a hrep.regs,?_⟩⟩))
 have hcs:cs.map a.eval=vs:=by
  clear hop k
  induction cs generalizing vs with
  | nil=>cases vs with
   | nil=>rfl
   | cons v vs=>cases hev
  | cons c cs ih=>cases vs with
   | nil=>cases hev
   | cons v vs =>
    simp only[List.map_cons,List.cons.injEq] at hev ⊢
    refine ⟨?_,ih vs hev.2⟩
    rw[ev_of hrep.regs hev.1];rfl
 have hrun:(execOp a.eval o).run P w=.ok (.value (.func (.func f) #[] vs.toArray)) w:=by
  unfold execOp
  simp only[hop]
  simp[Instr.makeFunc,Sem.run_pure,← hcs]
 unfold Oper.wp
 rw[hrun]
 have hr2:=hrep.set (d:=o.dst) (x:=some (.v (.func (.func f) #[] vs.toArray))) (v:=.func (.func f) #[] vs.toArray) (fun s hs=>(zxy hd hf s hs).1) (fun z e=>by injection e with e;rw[← e];rfl) (fun z t e ht=>by injection e with e;rw[← e] at ht;cases ht)
 show ∃S' B' u'' u2,Rep w0 u0 S' B' (a.put o.dst _) w u''∧_
 refine ⟨_,B,u',u,hr2,fun _=>Ext.refl _,fun _=>Ext.refl _,he,?_⟩
 rw[hd];exact k
def SL (P:Program) (w0:Base) (u0:World) (ops:Array Oper) (l:List Oper) (S:St) (u:World) (Q:MP):Prop :=
 ∀B a w u',Ext u u'→Rep w0 u0 S B a w u'→wpList P ops (fun e a' w'=>∃S' B' u'',Rep w0 u0 S' B' a' w' u''∧Q.f e S' u'') l a w
theorem sl_key {Q:Exit→Act→World→Prop} (hK:Mono K) (l2:List Oper) (hQ:∀S u,K S u→∀B a w,Rep w0 u0 S B a w u→wpList P ops Q l2 a w) :
  ∀ (l:List Oper) (S:St) (B:Tmp→Nat) (a:Act) (w u:World),Rep w0 u0 S B a w u→sym P ops w0 u0 true (l.map fun o=>(o,[])) S u K→wpList P ops Q (l++l2) a w:=by
 intro l
 induction l with
 | nil=>intro S B a w u hr h;exact hQ S u h B a w hr
 | cons o l ih =>
  intro S B a w u hr h
  have hs:=one_sound (Q:=Q) (zwd hK) h (Ext.refl _) hr
  refine wpList_step fun K' hK'=>?_
  have hfin:∀a' w',(∃S' B' u'',Rep w0 u0 S' B' a' w' u''∧(true=false→Ext u u'')∧sym P ops w0 u0 true (l.map fun o=>(o,[])) S' u'' K)→K' a' w':=by
   rintro a' w' ⟨S',B',u'',g1,_,g3⟩
   exact hK' _ _ (ih S' B' a' w' u'' g1 g3)
  show if Region.wanted o (yielded ops a.tmps)=true then _ else _
  split
  ·rename_i hw
   rw[if_pos hw] at hs
   exact Oper.wp_mono hfin hs
  rename_i hw
  rw[if_neg hw] at hs
  exact hfin _ _ hs
end
theorem sy_maxN {P:Program} {ops:Array Oper} {w0:Base} {u0:World} {S:St} {u:World} {seq:Bool} {o:Oper} {p:List Tmp} {rest:List (Oper×List Tmp)} {K:St→World→Prop} (d:Tmp) {x y:Operand} {k0:IntKind} {n m v:Int} {tys:Array TypeId} (hv:(if m>n then m else n)=v)
  (k:sym P ops w0 u0 seq rest (S.set d (.v (.int k0 v))) u K)
  (hw:Wants ops o S:=by exact zwf xj) (hd:o.dst=some d:=by kernel_rfl) (hop:o.op=.call { callee:=.builtin .max,args:=#[x,y],argTypes:=tys }:=by rfl) (hf:freeB S d=true:=by kernel_rfl)
  (hx:evO S x=some (.v (.int k0 n)):=by rfl) (hy:evO S y=some (.v (.int k0 m)):=by rfl):sym P ops w0 u0 seq ((o,p)::rest) S u K:=by
 have hrun:∀ty w,(Builtin.max_ tys ty #[.int k0 n,.int k0 m]).run P w=.ok (.int k0 v) w:=by
  intro ty w
  rw[← hv]
  rfl
 refine .inl ⟨by rw[hop];exact (by decide:(0:Nat)≠2),.set (.v (.int k0 v)),⟨zxy hd hf,.inl ⟨(fun t ht=>by cases ht),fun B a w u' hr he hdt=>⟨hw B a hr,?_⟩⟩⟩,?_⟩
 ·unfold execOp
  simp only[hop,resolve,invoke,builtin,Sem.run_bind,Sem.run_pure,Result.andThen_ok,List.map_toArray,List.map_cons,List.map_nil,ev_of hr hx,ev_of hr hy,SV.conc,hrun]
 show sym P ops w0 u0 seq rest (S.put o.dst (some _)) u K
 rw[hd];exact k
section
variable {u u' u1:World} {L:List RL} {r:RL} {l:List Rat} {q:Rat} {K n b b6:Nat} {cs:List Value} {t t6:TypeId}
theorem var_cell1 {v:Value} (h:u.heap[b]? = some (.cells [v].toArray t (0,0))):u.cell? ⟨b,0,none⟩=some v:=by rw[cells_at h];rfl
theorem SlR.extB0 {A:Option Addr} {m c:Nat} {z:List Int} (h:SlR .u32 u A m c z) (hb:u.heap[b]? = some (.cells cs.toArray t (0,0))) (hn:∀v∈cs,∀y,v≠.int .u32 y) (e:ExtB b u u'):SlR .u32 u' A m c z:=by
 obtain ⟨h1,h2,h3,h4⟩:=h
 refine ⟨h1,h2,h3,fun hp=>?_⟩
 obtain ⟨b',o,rfl,hlt,hc⟩:=h4 hp
 have hne:b'≠b:=by
  rintro rfl
  have:=hc 0 hp
  rw[cells_at hb] at this
  have h9:cs[o+0]? = some (.int .u32 (z[0]?.getD 0)):=by simpa using this
  exact hn _ (List.mem_of_getElem? h9) _ rfl
 refine ⟨b',o,rfl,Nat.lt_of_lt_of_le hlt e.size,fun i hi=>?_⟩
 have:=hc i hi
 unfold World.cell? at this ⊢
 cases hb':u.heap[b']? with
 | none=>simp only[hb'] at this;cases this
 | some ob =>
  simp only[hb'] at this
  cases ob with
  | cells cs t' fr=>rw[e.vis b' _ hne hb' (by unfold hidO;exact fun e=>by cases e)];exact this
  | _=>cases this
theorem RatN.extB0 (h:RatN u r q K) (hb:u.heap[b]? = some (.cells cs.toArray t (0,0))) (hn:∀v∈cs,∀y,v≠.int .u32 y) (e:ExtB b u u'):RatN u' r q K :=
 ⟨⟨h.1.1,h.1.2.1,h.1.2.2.1.extB0 hb hn e,h.1.2.2.2⟩,h.2.1,h.2.2.1.extB0 hb hn e,h.2.2.2⟩
end
end Go.Proofs.YtedobdigeeflcaaGreat

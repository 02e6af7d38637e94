/- Parts of the proof: contracts of functions, each walked once, and plain laws. -/
import Derived.Test.YtedobdigeeflcaaGreatBwhG
set_option linter.unusedVariables false
set_option maxHeartbeats 8000000
namespace Go.Proofs.YtedobdigeeflcaaGreat
open Nt
open Go.RowKit
theorem Nt.rtH_of {q:Rat} {n k:Nat} (h:q.num.natAbs*2^(n*k)%q.den=0):rtH q n k=if (cmpS ((rtN q n k^n:Nat):Int) ((rtD q n k:Nat):Int)==0)=true then (rtN q n k:Int) else (rtN q n k:Int)+1:=by
 unfold rtH
 by_cases h1:rtN q n k^n=rtD q n k
 ·rw[if_pos ⟨h,h1⟩,if_pos (by rw[cmp_eq (congrArg _ h1)];rfl)]
 rw[if_neg (fun h2=>h1 h2.2),if_neg ?_]
 intro h2
 rcases cmp_range ((rtN q n k^n:Nat):Int) ((rtD q n k:Nat):Int) with ⟨e,h3⟩ | ⟨e,h3⟩ | ⟨e,h3⟩
 ·rw[e] at h2;exact absurd h2 yq
 ·exact h1 (Int.ofNat_inj.1 h3)
 rw[e] at h2;exact absurd h2 yq
theorem k_RootG {u w:World} {r:RL} {q:Rat} {K n k:Nat} (d:Dat u w) (hr:RatV u r q K) (hq0:0≤q) (hn1:1≤n) (hn:n≤64) (hk:k≤256) (hK:K≤100):qyc 27 #[r.v,.int .i64 (n:Int),.int .i64 (k:Int)] w (Post u w fun v u'=>∃r1 r2:RL,v=.tuple #[IV r1 r2,.int .i64 0]∧RatN u' r1 (Nt.gr k (rtN q n k:Int)) 1000∧RatN u' r2 (Nt.gr k (rtH q n k)) 1000):=by
 have hnk:n*k≤64*256:=Nat.mul_le_mul hn hk
 refine zzm Tryz.func27 rfl Tryz.ntmps27 Tryz.results27 d ?_
 refine sq9 (zzk 3 ⟨28,r.cs⟩ (zzk 6 ⟨57,zw6⟩ (zza 7 (zI 0) (zzb (zzd (sq9 (zzi 17 (.v (r.v)) ty28 zze (zzg 18 29 _ fun _ _ ap aG=>qym (k_ratSign aG (hr.ext ap)) ?_))))))))
 rintro _ u12 aO rfl
 refine zza 19 (zB (decide ((sgQ q)<0))) (zyq 20 (x:=zB (decide ((sgQ q)<0))) (zB false) (by rw[show (decide ((sgQ q)<0))=false from decide_eq_false (sgQ_nn hq0)]) (zza 21 (zI k) ?_ (hw:=w1 3 false 20)))
 refine zzg 22 83 _ (fun _ _ aR a0=>qym (k_ePermitted (n:=(k:Int)) a0) ?_) (hw:=w1 3 false 20)
 rintro _ u17 aD rfl
 refine zza 23 (zB (!(decide (0≤(k:Int)∧(k:Int)≤256)))) ?_ (hw:=w1 3 false 20)
 refine zza 24 (zB (!(decide (0≤(k:Int)∧(k:Int)≤256)))) (zyq 25 (x:=zB (!(decide (0≤(k:Int)∧(k:Int)≤256)))) (zB false) (by rw[show (!(decide (0≤(k:Int)∧(k:Int)≤256)))=false from (by rw[decide_eq_true xq];rfl)]) (zza 26 (zI n) ?_ (hw:=w1 8 false 25)))
 refine zza 27 (zB (decide ((n:Int)<1))) ?_ (hw:=w1 8 false 25)
 refine zza 28 (zB (decide ((n:Int)<1))) (zyq 29 (x:=zB (decide ((n:Int)<1))) (zB false) (by rw[show (decide ((n:Int)<1))=false from decide_eq_false xq]) (zza 30 (zI n) ?_ (hw:=w1 12 false 29)))
 refine zza 31 (zB (decide ((64:Int)<(n:Int)))) ?_ (hw:=w1 12 false 29)
 refine zza 32 (zB (decide ((64:Int)<(n:Int)))) (zzb (zzu (b:=decide ((64:Int)<(n:Int))) xj (fun hb=>?_) (fun hb=>?_)))
 ·exact absurd hb (by rw[show (decide ((64:Int)<(n:Int)))=false from decide_eq_false xq];decide)
 clear hb
 refine zzs (zzp ?_)
 refine sq9 (zzi 34 (.v (r.v)) ty28 zze (zzg 35 84 _ fun _ _ aZ aL=>qym (k_ratTrim aL (hr.ext (ap.t (aO.t (aR.t (aD.t aZ))))) xq) ?_))
 rintro _ u25 g26 ⟨an,rfl,ax⟩
 refine zzj ⟨28,an.cs⟩ ty28 ?_
 refine zzb (sq9 (zza 36 (.adr 3 0) (zza 37 (.adr 3 1) (zzi 38 (.v (an.m.v)) ty24 zzl (zza 39 (zI n) (zza 40 (zI k) (qwi 41 ((n:Int)*(k:Int)) (n*k:Nat) (by rw[← Int.natCast_mul];exact IntWalk.i64_in _ xq) (zzg 42 85 _ fun _ _ au aJ=>qym (k_natShift (s:=n*k) aJ ((int_mag (RatN.num ax)).ext au).raw xq xq) ?_))))))))
 rintro _ u31 aX ⟨ao,rfl,aF⟩
 refine zza 8 (.v (ao.v)) (zzb (sq9 (zza 44 (.v (ao.v)) (zza 45 (.adr 3 2) (zzi 46 (.v (an.d.v)) ty24 zzl (zzg 47 86 _ fun _ _ ar aT=>qym (k_natDivMod aT (aF.ext ar).raw ((RatN.den ax).ext (au.t (aX.t ar))).raw q.den_pos xq xq) ?_))))))
 rintro _ u39 g40 ⟨af,aa,rfl,aA,aw⟩
 refine zza 43 (.v (.tuple #[af.v,aa.v,.int .i64 0])) (zza 48 (.v (af.v)) (zza 49 (.v (aa.v)) (zza 50 (zI 0) (zza 9 (.v (af.v)) (zza 10 (.v (aa.v)) (zza 11 (zI 0) (zzc 77 [(1,zI n),(2,zI k),(6,.adr 6 0),(9,.v (af.v)),(10,.v (aa.v))] [(6,⟨57,zw6⟩)] (sq9 (zza 52 (.v (af.v)) (zza 53 (zI n) (zzg 54 87 _ fun _ _ av aC=>qym (k_natRoot (n:=n) aC (aA.ext av).raw xq xq xq) ?_)))))))))))
 rintro _ u45 aK ⟨ab,rfl,al⟩
 refine zza 51 (.v (.tuple #[ab.v,.int .i64 0])) (zza 55 (.v (ab.v)) (zza 56 (zI 0) (zza 12 (.v (ab.v)) (zza 13 (zI 0) (zzb (sq9 (zza 58 (.v (ab.v)) (zza 59 (zI n) (zzg 60 88 _ fun _ _ aj aW=>qym (k_natPow (n:=n) aW (al.ext aj) xq xq) ?_)))))))))
 rintro _ u51 ak ⟨ai,rfl,aY⟩
 refine zza 57 (.v (.tuple #[ai.v,.int .i64 0])) (zza 61 (.v (ai.v)) (zza 62 (zI 0) (zza 14 (.v (ai.v)) (zza 15 (zI 0) (zzb (sq9 (zza 63 (.v (aa.v)) (zza 64 (zI aa.n) (zza 65 (zB ((aa.n:Int)==0)) ?_)))))))))
 rcases Bool.eq_false_or_eq_true ((aa.n:Int)==0) with hs54 | hs54
 ·refine qbi 66 hs54 ?_
  have ah:(aa.n:Int)=0:=by simpa using hs54
  refine zza 67 (.v (ai.v)) ?_ (hw:=w1 3 true 66)
  refine zza 68 (.v (af.v)) ?_ (hw:=w1 3 true 66)
  refine zzg 69 80 _ (fun _ _ am aE=>qym (k_natCompare aE (aY.ext am).raw (aA.ext (av.t (aK.t (aj.t (ak.t am))))).raw) ?_) (hw:=w1 3 true 66)
  rintro _ u56 aV rfl
  refine zza 70 (zB ((cmpS ((((irt n ((((q.num:Int).natAbs)*2^(n*k)) / q.den))^n):Nat):Int) ((((((q.num:Int).natAbs)*2^(n*k)) / q.den):Nat):Int))==0)) ?_ (hw:=w1 3 true 66)
  refine zza 71 (zB ((cmpS ((((irt n ((((q.num:Int).natAbs)*2^(n*k)) / q.den))^n):Nat):Int) ((((((q.num:Int).natAbs)*2^(n*k)) / q.den):Nat):Int))==0)) (zza 16 (zB ((cmpS ((((irt n ((((q.num:Int).natAbs)*2^(n*k)) / q.den))^n):Nat):Int) ((((((q.num:Int).natAbs)*2^(n*k)) / q.den):Nat):Int))==0)) (zzb (sq9 (zza 72 (.v (ab.v)) (zza 73 (.v (.agg #[.bool false,ab.v])) (zza 74 (zB ((cmpS ((((irt n ((((q.num:Int).natAbs)*2^(n*k)) / q.den))^n):Nat):Int) ((((((q.num:Int).natAbs)*2^(n*k)) / q.den):Nat):Int))==0)) (zza 75 (zI k) (zzg 76 89 _ fun _ _ aU aH=>qym (k_betweenB (k:=k) (e:=(cmpS ((((irt n ((((q.num:Int).natAbs)*2^(n*k)) / q.den))^n):Nat):Int) ((((((q.num:Int).natAbs)*2^(n*k)) / q.den):Nat):Int))==0) aH (nat_intN (al.ext (aj.t (ak.t (am.t (aV.t aU)))))) xq xq xq) ?_))))))))
  rintro _ u64 g65 ⟨ag,ad,rfl,aQ,aP⟩
  refine zzj ⟨57,ag.cs++ad.cs⟩ ty57 ?_
  refine zza 7 (zI 0) (zzc 77 [(6,.adr 6 0),(7,zI 0)] [(6,⟨57,ag.cs++ad.cs⟩)] (zzo (ret0 [.agg #[.bool ag.s,ag.m.v,ag.d.v,.bool ad.s,ad.m.v,ad.d.v],.int .i64 0] ⟨zzr ty57 zze,zzq,trivial⟩ fun u67 aq=>?_)))
  have hps:=aw.pos
  have aS:q.num.natAbs*2^(n*k)%q.den=0:=by have h8:=hs54;simp at h8;omega
  have he:=rtH_of aS
  exact ⟨ag,ad,rfl,RatN.more (aQ.ext aq) xq,by rw[he];exact RatN.more (aP.ext aq) xq⟩
 refine qbi 66 hs54 ?_
 have ah:¬((aa.n:Int)=0):=by simpa using hs54
 refine zzn 67 (uw 3 true false 66) (zzn 68 (uw 3 true false 66) (zzn 69 (uw 3 true false 66) (zzn 70 (uw 3 true false 66) (zza 71 (zB false) (zza 16 (zB false) (zzb (sq9 (zza 72 (.v (ab.v)) (zza 73 (.v (.agg #[.bool false,ab.v])) (zza 74 (zB false) (zza 75 (zI k) ?_)))))))))))
 refine zzg 76 89 _ fun _ _ aN aM=>qym (k_betweenN (k:=k) aM (nat_intN (al.ext (aj.t (ak.t aN)))) xq xq xq) ?_
 rintro _ u74 g75 ⟨ac,ae,rfl,aB,aI⟩
 refine zzj ⟨57,ac.cs++ae.cs⟩ ty57 ?_
 refine zza 7 (zI 0) (zzc 77 [(6,.adr 6 0),(7,zI 0)] [(6,⟨57,ac.cs++ae.cs⟩)] (zzo (ret0 [.agg #[.bool ac.s,ac.m.v,ac.d.v,.bool ae.s,ae.m.v,ae.d.v],.int .i64 0] ⟨zzr ty57 zze,zzq,trivial⟩ fun u77 ay=>?_)))
 have hps:=aw.pos
 have hx:¬rtX q n k:=fun h9=>by have h8:=hs54;simp at h8;have h7:=h9.1;omega
 have he:rtH q n k=_:=if_neg hx
 exact ⟨ac,ae,rfl,RatN.more (aB.ext ay) xq,by rw[he];exact RatN.more (aI.ext ay) xq⟩
theorem k_cut {u w:World} {x:Sl} {l:List Rat} {K:Nat} (d:Dat u w) (hx:PolV u x l K) (hK:K≤100000000) (hx9:l.length≤1000000000):qyc 91 #[x.v] w (Post u w fun v u'=>v=.slice x.a (trimQ l).length x.c):=by
 have hlen:=hx.len
 refine zzm Tryz.func91 rfl Tryz.ntmps91 Tryz.results91 d ?_
 refine sq9 (zza 2 (.v (qyn)) (zzb (sq9 (zza 4 (.v (x.v)) (zza 5 (zI x.n) (zza 3 (zI x.n) (zzb (zzd (zzt (zyn (I:=fun ai S' u'=>∃ (n:Nat),(ai=n)∧(n≤l.length)∧(∀i,n≤i→Nt.co l i=0)∧(S'=St.of 22 [(0,.v (x.v)),(3,zI n)] [])∧(Ext u u')) (fun m S u1 u2 e h=>by obtain ⟨n,hm,p0,p1,hS,hE⟩:=h;exact ⟨n,hm,p0,p1,hS,hE.trans e⟩) _ yk ⟨x.n,rfl,by omega,fun i hi=>co_ge xq,rfl,(Ext.refl _)⟩ ?_))))))))))
 rintro ai _ u11 ⟨n,al,hn,hz,rfl,aa⟩
 refine zzd (sq9 (zza 6 (zI n) (zza 7 (zB (decide ((0:Int)<(n:Int)))) ?_)))
 rcases Bool.eq_false_or_eq_true (decide ((0:Int)<(n:Int))) with hs12 | hs12
 ·refine qbi 8 hs12 ?_
  have qhs12:=qyt hs12
  refine zza 9 (.v (x.v)) ?_ (hw:=w1 2 true 8)
  refine zza 10 (zI n) ?_ (hw:=w1 2 true 8)
  refine qwi 11 ((n:Int) - 1) (n - 1:Nat) xz ?_ (hw:=w1 2 true 8)
  have hl13:=(hx.ext aa).len
  obtain ⟨aj,b13,ah,ad,af,ag⟩:=pol_at (hx.ext aa) (i:=n - 1) xq
  refine zya 12 (ah+(n - 1)*3) (n:=x.n) (off:=ah) (sz:=3) (i:=((n - 1:Nat):Int)) xq ad xq xq sl37 ?_ (hw:=w1 2 true 8)
  refine zym 13 aj.cs af ty28 ?_ (hw:=w1 2 true 8)
  refine zzg 14 29 _ (fun _ _ ac ak=>qym (k_ratSign ak (ag.ext ac)) ?_) (hw:=w1 2 true 8)
  rintro _ u15 ae rfl
  refine zza 15 (zB ((sgQ (l.getD (n - 1) 0))==0)) ?_ (hw:=w1 2 true 8)
  refine zza 16 (zB ((sgQ (l.getD (n - 1) 0))==0)) (zzb (zzu (b:=(sgQ (l.getD (n - 1) 0))==0) xj (fun ab=>?_) (fun ab=>?_)))
  ·refine zzs (zzp ?_)
   refine zzt (zzf (zza 17 (zI n) (qwi 18 ((n:Int) - 1) (n - 1:Nat) xz (zza 3 (zI (n - 1:Nat)) (zzx ?_)))))
   refine ⟨_,?_,_,by exact zzv _ _ _,n - 1,rfl,by omega,(fun i hi=>by by_cases e:i=n - 1;(rw[e];have h9:=ab;rw[sgQ_eq] at h9;exact qyt h9);exact hz i xq),rfl,(aa.t (ac.t ae.ext))⟩
   omega
  refine zyc (zzp (sq9 (zza 19 (.v (x.v)) (zza 20 (zI n) ?_))))
  have hl19:=(hx.ext (aa.t (ac.t ae.ext))).len
  have hc19:=(hx.ext (aa.t (ac.t ae.ext))).cap
  refine sy_front 21 (n:=x.n) (c:=x.c) n sl37 rfl xq ?_
  refine zza 2 (.v (.slice x.a n x.c)) (zzb (zzo (ret0 [.slice x.a n x.c] ⟨zzq,trivial⟩ fun u20 e21=>?_)))
  have e:=trim_len_of (l:=l) hn hz (fun _ h=>by have h9:=ab;rw[sgQ_eq] at h9;exact qyf h9 h)
  show Value.slice _ _ _=Value.slice _ _ _
  rw[e]
 refine qbi 8 hs12 ?_
 have qhs12:=qyf hs12
 refine zzn 9 (uw 2 true false 8) (zzn 10 (uw 2 true false 8) (zzn 11 (uw 2 true false 8) (zzn 12 (uw 2 true false 8) (zzn 13 (uw 2 true false 8) (zzn 14 (uw 2 true false 8) (zzn 15 (uw 2 true false 8) (zza 16 (zB false) (zzb (zys xj (zyc (zzp ?_)))))))))))
 refine sq9 (zza 19 (.v (x.v)) (zza 20 (zI n) ?_))
 have hl22:=(hx.ext aa).len
 have hc22:=(hx.ext aa).cap
 refine sy_front 21 (n:=x.n) (c:=x.c) n sl37 rfl xq ?_
 refine zza 2 (.v (.slice x.a n x.c)) (zzb (zzo (ret0 [.slice x.a n x.c] ⟨zzq,trivial⟩ fun u23 e24=>?_)))
 have e:=trim_len_of (l:=l) hn hz (fun h=>absurd h xq)
 show Value.slice _ _ _=Value.slice _ _ _
 rw[e]
def NewR (u:World) (n:Nat) (t:List Rat) (K:Nat) (v:Value) (u':World):Prop:=∃ (b:Nat) (L:List RL),v=.slice (some ⟨b,0,none⟩) n n∧u.heap.size≤b∧u'.heap[b]? = some (.cells (rcs L).toArray 28 (0,0))∧L.length=n∧RatsN u' L t K
theorem k_zeros {u w:World} {n:Nat} (d:Dat u w) (hn9:n≤1000000000):qyc 93 #[.int .i64 (n:Int)] w (Post u w fun v u'=>NewR u n (List.replicate n 0) 2 v u'):=by
 refine zzm Tryz.func93 rfl Tryz.ntmps93 Tryz.results93 d ?_
 refine sq9 (zza 2 (.v (qyn)) (zzb (sq9 (zza 5 (zI n) (sy_make 6 (T:=37) (E:=28) (z:=.agg #[.bool false,qyn,qyn]) (size:=3) (bytes:=56) n (rcs (List.replicate n rl0)) xj xj rfl rfl xq yv (made_rcs _) ?_)))))
 refine zza 3 (.slc 6 0 n n) (zzc 18 [(3,.slc 6 0 n n)] [(6,⟨28,rcs (List.replicate n rl0)⟩)] (zzd (sq9 (zza 7 (.slc 6 0 n n) (zza 8 (zI n) (zza 9 (zI 0) (zzc 18 [(3,.slc 6 0 n n),(8,zI n),(9,zI 0)] [(6,⟨28,rcs (List.replicate n rl0)⟩)] (zzt (zyn (I:=fun ah S' u'=>∃ (i:Nat) (L:List RL),(ah=n - i)∧(i≤n)∧(L.length=n)∧(S'=St.of 18 [(3,.slc 6 0 n n),(8,zI n),(9,zI i)] [(6,⟨28,rcs L⟩)])∧(Ext u u')∧(RatsN u' (L.take i) ((List.replicate n (0:Rat)).take i) 2)) (fun m S u1 u2 e h=>by obtain ⟨i,L,hm,p0,p1,hS,hE,f0⟩:=h;exact ⟨i,L,hm,p0,p1,hS,hE.trans e,f0.ext e⟩) _ yk ⟨0,List.replicate n rl0,rfl,by omega,by simp,rfl,(Ext.refl _),RatsN.tnil _ _ _ _⟩ ?_)))))))))
 rintro ah _ u11 ⟨i,L,ap,hi,hL,rfl,am,hR⟩
 refine sq9 (zza 10 (zB (decide ((i:Int)<(n:Int)))) (zzb (zzd (zzu (b:=decide ((i:Int)<(n:Int))) xj (fun aa=>?_) (fun aa=>?_)))))
 ·have qhb12:=qyt aa
  refine zzs (zzp ?_)
  refine zzd (zzt (sq9 (zza 11 (zI i) (zza 4 (zI i) (zzb (zzf (zza 12 (.slc 6 0 n n) (zza 13 (zI i) (zzg 14 23 _ fun _ _ aj al=>qym (k_ratOf al (z:=0) xq xq) ?_)))))))))
  rintro _ u16 ag ⟨af,rfl,ao⟩
  refine zyw 15 (off':=i*3) (n:=n) (off:=0) (sz:=3) (i:=(i:Int)) sl37 xq xq xq ?_
  refine zyv (V:=⟨28,rcs L⟩) (off:=i*3) (rcs ((L).set i af)) ty28 zk (zyx (r:=af) (i:=i) zj rfl) ?_
  refine zzx ?_
  refine zzp (zzf (qwi 16 ((i:Int)+1) (i+1:Nat) xz (zza 9 (zI (i+1:Nat)) (zzx ?_))))
  have ad:i<(List.replicate n (0:Rat)).length:=by simp;omega
  refine ⟨_,?_,_,by exact zzv _ _ _,i+1,(L).set i af,rfl,by omega,by simpa using hL,rfl,(am.t (aj.t ag.ext)),RatsN.tstep (hR.ext (aj.t ag.ext)) xq ad (RatN.more (K:=2) ao xq) (by rw[qyg,List.getElem?_replicate];split<;>rfl)⟩
  omega
 have qhb12:=qyf aa
 refine zyc (zzp (zzd (zyp (r:=3) (t:=6) [3,6] xw xj zq zq xj (fun ab an ak ae ac=>?_))))
 have aq:PolN an ⟨some ⟨ab,0,none⟩,n,n⟩ (List.replicate n (0:Rat)) 2:=pol_data1 ac yv (RatsN.tdone (hR.ext ak) xq yy) xq
 refine zzf (zza 17 (.v (.slice (some ⟨ab,0,none⟩) n n)) (zza 2 (.v (.slice (some ⟨ab,0,none⟩) n n)) (zzb (zzo (ret0 [.slice (some ⟨ab,0,none⟩) n n] ⟨zzq,trivial⟩ fun u26 ai=>?_)))))
 exact ⟨ab,L,rfl,ae,ai.cells ac,by omega,(RatsN.tdone (hR.ext (ak.trans ai)) xq yy)⟩
theorem k_poScale {u w:World} {x:Sl} {l:List Rat} {r:RL} {q:Rat} {K M:Nat} (d:Dat u w) (hx:PolV u x l K) (hr:RatV u r q M) (hK:K≤50000000) (hx9:l.length≤1000000000) (hM:M≤50000000):qyc 31 #[x.v,r.v] w (Post u w fun v u'=>∃y:Sl,v=y.v∧PolN u' y (trimQ (l.map (· * q))) (K+M)):=by
 have hlen:=hx.len
 refine zzm Tryz.func31 rfl Tryz.ntmps31 Tryz.results31 d ?_
 refine sq9 (zzk 3 ⟨28,r.cs⟩ (zza 4 (.v (qyn)) (zzb (sq9 (zza 7 (.v (x.v)) (zza 8 (zI x.n) (sy_make 9 (T:=37) (E:=28) (z:=.agg #[.bool false,qyn,qyn]) (size:=3) (bytes:=56) x.n (rcs (List.replicate x.n rl0)) xj xj rfl rfl xq yv (made_rcs _) ?_)))))))
 refine zza 5 (.slc 9 0 x.n x.n) (zzc 27 [(0,.v (x.v)),(3,.adr 3 0),(5,.slc 9 0 x.n x.n)] [(3,⟨28,r.cs⟩),(9,⟨28,rcs (List.replicate x.n rl0)⟩)] (zzd (sq9 (zza 10 (.slc 9 0 x.n x.n) (zza 11 (zI x.n) (zza 12 (zI 0) (zzc 27 [(0,.v (x.v)),(3,.adr 3 0),(5,.slc 9 0 x.n x.n),(11,zI x.n),(12,zI 0)] [(3,⟨28,r.cs⟩),(9,⟨28,rcs (List.replicate x.n rl0)⟩)] (zzt (zyn (I:=fun am S' u'=>∃ (i:Nat) (L:List RL),(am=x.n - i)∧(i≤x.n)∧(L.length=x.n)∧(S'=St.of 27 [(0,.v (x.v)),(3,.adr 3 0),(5,.slc 9 0 x.n x.n),(11,zI x.n),(12,zI i)] [(3,⟨28,r.cs⟩),(9,⟨28,rcs L⟩)])∧(Ext u u')∧(RatsN u' (L.take i) ((l.map (· * q)).take i) (K+M))) (fun m S u1 u2 e h=>by obtain ⟨i,L,hm,p0,p1,hS,hE,f0⟩:=h;exact ⟨i,L,hm,p0,p1,hS,hE.trans e,f0.ext e⟩) _ yk ⟨0,List.replicate x.n rl0,rfl,by omega,by simp,rfl,(Ext.refl _),RatsN.tnil _ _ _ _⟩ ?_)))))))))
 rintro am _ u11 ⟨i,L,ay,hi,hL,rfl,ad,hR⟩
 refine sq9 (zza 13 (zB (decide ((i:Int)<(x.n:Int)))) (zzb (zzd (zzu (b:=decide ((i:Int)<(x.n:Int))) xj (fun aa=>?_) (fun aa=>?_)))))
 ·have qhb12:=qyt aa
  refine zzs (zzp ?_)
  refine zzd (zzt (sq9 (zza 14 (zI i) (zza 6 (zI i) (zzb (zzz [0,0,0,0,12,28,0,124,255,511] [(0,[]),(1,[]),(2,[]),(3,[]),(4,[]),(5,[]),(6,[]),(7,[]),(8,[]),(9,[])] xj xj (zza 15 (.slc 9 0 x.n x.n) (zza 16 (zI i) (zza 17 (.v (x.v)) (zza 18 (zI i) ?_))))))))))
  have hl13:=(hx.ext ad).len
  obtain ⟨ar,b13,al,af,ag,ai⟩:=pol_at (hx.ext ad) (i:=i) xq
  refine zya 19 (al+i*3) (n:=x.n) (off:=al) (sz:=3) (i:=(i:Int)) xq af xq xq sl37 (zym 20 ar.cs ag ty28 (zzi 21 (.v (r.v)) ty28 zze (zzg 22 28 _ fun _ _ ae ax=>qym (k_ratMul ax (ai.ext ae) (hr.ext (ad.trans ae)) xq xq) ?_)))
  rintro _ u17 ao ⟨aj,rfl,aA⟩
  refine zyw 23 (off':=i*3) (n:=x.n) (off:=0) (sz:=3) (i:=(i:Int)) sl37 xq xq xq ?_
  refine zyv (V:=⟨28,rcs L⟩) (off:=i*3) (rcs ((L).set i aj)) ty28 zk (zyx (r:=aj) (i:=i) zj rfl) ?_
  refine zzx ?_
  refine zzp (zzf (qwi 24 ((i:Int)+1) (i+1:Nat) xz (zza 12 (zI (i+1:Nat)) (zzx ?_))))
  have ah:i<(l.map (· * q)).length:=by simp;omega
  refine ⟨_,?_,_,by exact zzv _ _ _,i+1,(L).set i aj,rfl,by omega,by simpa using hL,rfl,(ad.t (ae.t ao.ext)),RatsN.tstep (hR.ext (ae.t ao.ext)) xq ah (RatN.more (K:=(K+M)) aA xq) (by simp[List.getElem?_eq_getElem (show i<l.length by omega)])⟩
  omega
 have qhb12:=qyf aa
 refine zyc (zzp (zzd (zyp (r:=5) (t:=9) [5,9] xw xj zq zq xj (fun ac au av aq ak=>?_))))
 have ab:PolN au ⟨some ⟨ac,0,none⟩,x.n,x.n⟩ (l.map (· * q)) (K+M):=pol_data1 ak yv (RatsN.tdone (hR.ext av) xq yy) xq
 refine zzf (zza 25 (.v (.slice (some ⟨ac,0,none⟩) x.n x.n)) (zzg 26 91 _ fun _ _ an aB=>qym (k_cut aB (ab.ext an).raw xq xk) ?_))
 rintro _ u28 aw rfl
 refine zza 4 (.v (.slice (some ⟨ac,0,none⟩) (trimQ (l.map (· * q))).length x.n)) (zzb (zzo (ret0 [.slice (some ⟨ac,0,none⟩) (trimQ (l.map (· * q))).length x.n] ⟨zzq,trivial⟩ fun u31 ap=>?_)))
 refine ⟨(⟨some ⟨ac,0,none⟩,(trimQ (l.map (· * q))).length,x.n⟩:Sl),rfl,?_⟩
 exact ((cut_N (ab.ext (an.t aw.ext))).ext ap)
theorem k_poTrim {u w:World} {x:Sl} {l:List Rat} {K:Nat} (d:Dat u w) (hx:PolV u x l K) (hK:K≤50000000) (hx9:l.length≤1000000000):qyc 34 #[x.v] w (Post u w fun v u'=>∃y:Sl,v=y.v∧PolN u' y (trimQ l) K):=by
 have hlen:=hx.len
 have htl:=zzh l
 refine zzm Tryz.func34 rfl Tryz.ntmps34 Tryz.results34 d ?_
 refine sq9 (zza 2 (.v (qyn)) (zzb (sq9 (zza 5 (.v (x.v)) (zzg 6 91 _ fun _ _ ad aw=>qym (k_cut aw (hx.ext ad) xq xk) ?_)))))
 rintro _ aC ao rfl
 refine zza 7 (zI (((trimQ l).length:Nat):Int)) (sy_make 8 (T:=37) (E:=28) (z:=.agg #[.bool false,qyn,qyn]) (size:=3) (bytes:=56) ((trimQ l).length) (rcs (List.replicate ((trimQ l).length) rl0)) xj xj rfl rfl xq yv (made_rcs _) ?_)
 refine zza 3 (.slc 8 0 ((trimQ l).length) ((trimQ l).length)) (zzc 24 [(0,.v (x.v)),(3,.slc 8 0 ((trimQ l).length) ((trimQ l).length))] [(8,⟨28,rcs (List.replicate ((trimQ l).length) rl0)⟩)] (zzd (sq9 (zza 9 (.slc 8 0 ((trimQ l).length) ((trimQ l).length)) (zza 10 (zI (((trimQ l).length:Nat):Int)) (zza 11 (zI 0) (zzc 24 [(0,.v (x.v)),(3,.slc 8 0 ((trimQ l).length) ((trimQ l).length)),(10,zI (((trimQ l).length:Nat):Int)),(11,zI 0)] [(8,⟨28,rcs (List.replicate ((trimQ l).length) rl0)⟩)] (zzt (zyn (I:=fun an S' u'=>∃ (i:Nat) (L:List RL),(an=((trimQ l).length) - i)∧(i≤(trimQ l).length)∧(L.length=(trimQ l).length)∧(S'=St.of 24 [(0,.v (x.v)),(3,.slc 8 0 ((trimQ l).length) ((trimQ l).length)),(10,zI (((trimQ l).length:Nat):Int)),(11,zI i)] [(8,⟨28,rcs L⟩)])∧(Ext aC u')∧(RatsN u' (L.take i) ((trimQ l).take i) K)) (fun m S u1 u2 e h=>by obtain ⟨i,L,hm,p0,p1,hS,hE,f0⟩:=h;exact ⟨i,L,hm,p0,p1,hS,hE.trans e,f0.ext e⟩) _ yk ⟨0,List.replicate ((trimQ l).length) rl0,rfl,by omega,by simp,rfl,(Ext.refl _),RatsN.tnil _ _ _ _⟩ ?_)))))))))
 rintro an _ u15 ⟨i,L,ar,hi,hL,rfl,al,hR⟩
 refine sq9 (zza 12 (zB (decide ((i:Int)<(((trimQ l).length:Nat):Int)))) (zzb (zzd (zzu (b:=decide ((i:Int)<(((trimQ l).length:Nat):Int))) xj (fun aa=>?_) (fun aa=>?_)))))
 ·have qhb16:=qyt aa
  refine zzs (zzp ?_)
  refine zzd (zzt (sq9 (zza 13 (zI i) (zza 4 (zI i) (zzb (zzf (zza 14 (.slc 8 0 ((trimQ l).length) ((trimQ l).length)) (zza 15 (zI i) (zza 16 (.v (x.v)) (zza 17 (zI i) ?_))))))))))
  have hl17:=(hx.ext (ad.t (ao.t al))).len
  obtain ⟨ax,b17,am,af,ak,ac⟩:=pol_at (hx.ext (ad.t (ao.t al))) (i:=i) xq
  refine zya 18 (am+i*3) (n:=x.n) (off:=am) (sz:=3) (i:=(i:Int)) xq af xq xq sl37 (zym 19 ax.cs ak ty28 (zzg 20 84 _ fun _ _ aj av=>qym (k_ratTrim av (ac.ext aj) xq) ?_))
  rintro _ u21 ap ⟨ag,rfl,ay⟩
  refine zyw 21 (off':=i*3) (n:=(trimQ l).length) (off:=0) (sz:=3) (i:=(i:Int)) sl37 xq xq xq ?_
  refine zyv (V:=⟨28,rcs L⟩) (off:=i*3) (rcs ((L).set i ag)) ty28 zk (zyx (r:=ag) (i:=i) zj rfl) ?_
  refine zzx ?_
  refine zzp (zzf (qwi 22 ((i:Int)+1) (i+1:Nat) xz (zza 11 (zI (i+1:Nat)) (zzx ?_))))
  have ah:i<(trimQ l).length:=by skip;omega
  refine ⟨_,?_,_,by exact zzv _ _ _,i+1,(L).set i ag,rfl,by omega,by simpa using hL,rfl,(al.t (aj.t ap.ext)),RatsN.tstep (hR.ext (aj.t ap.ext)) xq ah (RatN.more (K:=K) ay xq) (trim_co l i).symm⟩
  omega
 have qhb16:=qyf aa
 refine zyc (zzp (zzd (zyp (r:=3) (t:=8) [3,8] xw xj zq zq xj (fun ab au aA aB ae=>?_))))
 have ai:PolN au ⟨some ⟨ab,0,none⟩,(trimQ l).length,(trimQ l).length⟩ (trimQ l) K:=pol_data1 ae yv (RatsN.tdone (hR.ext aA) xq (by skip;omega)) xq
 refine zzf (zza 23 (.v (.slice (some ⟨ab,0,none⟩) ((trimQ l).length) ((trimQ l).length))) (zza 2 (.v (.slice (some ⟨ab,0,none⟩) ((trimQ l).length) ((trimQ l).length))) (zzb (zzo (ret0 [.slice (some ⟨ab,0,none⟩) ((trimQ l).length) ((trimQ l).length)] ⟨zzq,trivial⟩ fun u31 aq=>?_)))))
 refine ⟨(⟨some ⟨ab,0,none⟩,(trimQ l).length,(trimQ l).length⟩:Sl),rfl,?_⟩
 exact (ai.ext aq)
theorem k_poAdd {u w:World} {x:Sl} {l:List Rat} {y:Sl} {m:List Rat} {K M:Nat} (d:Dat u w) (hx:PolV u x l K) (hy:PolV u y m M) (hK:K≤40000000) (hM:M≤40000000) (hx9:l.length≤1000000000) (hy9:m.length≤1000000000):qyc 33 #[x.v,y.v] w (Post u w fun v u'=>∃y:Sl,v=y.v∧PolN u' y (trimQ (addQ l m)) (K+M+1)):=by
 have hlen:=hx.len
 have hlen2:=hy.len
 refine zzm Tryz.func33 rfl Tryz.ntmps33 Tryz.results33 d ?_
 refine sq9 (zza 4 (.v (qyn)) (zzb (zzd (sq9 (zza 7 (.v (x.v)) (zza 8 (zI x.n) (zza 9 (.v (y.v)) (zza 10 (zI y.n) (zza 11 (zB (decide ((x.n:Int)<(y.n:Int)))) (zzb (zzu (b:=decide ((x.n:Int)<(y.n:Int))) xj (fun ae=>?_) (fun ae=>?_))))))))))))
 ·have qhb11:=qyt ae
  refine zzf (zza 12 (.v (y.v)) (zza 13 (.v (x.v)) (zza 0 (.v (y.v)) (zza 1 (.v (x.v)) (zzb (sq9 (zza 14 (.v (y.v)) (zza 15 (zI y.n) (sy_make 16 (T:=37) (E:=28) (z:=.agg #[.bool false,qyn,qyn]) (size:=3) (bytes:=56) y.n (rcs (List.replicate y.n rl0)) xj xj rfl rfl xq yv (made_rcs _) ?_)))))))))
  refine zza 5 (.slc 16 0 y.n y.n) (zzc 49 [(0,.v (y.v)),(1,.v (x.v)),(5,.slc 16 0 y.n y.n)] [(16,⟨28,rcs (List.replicate y.n rl0)⟩)] (zzd (sq9 (zza 17 (.slc 16 0 y.n y.n) (zza 18 (zI y.n) (zza 19 (zI 0) (zzc 49 [(0,.v (y.v)),(1,.v (x.v)),(5,.slc 16 0 y.n y.n),(18,zI y.n),(19,zI 0)] [(16,⟨28,rcs (List.replicate y.n rl0)⟩)] (zzt (zyn (I:=fun aY S' u'=>∃ (i:Nat) (L:List RL),(aY=y.n - i)∧(i≤y.n)∧(L.length=y.n)∧(S'=St.of 49 [(0,.v (y.v)),(1,.v (x.v)),(5,.slc 16 0 y.n y.n),(18,zI y.n),(19,zI i)] [(16,⟨28,rcs L⟩)])∧(Ext u u')∧(RatsN u' (L.take i) ((addQ l m).take i) (K+M+1))) (fun m S u1 u2 e h=>by obtain ⟨i,L,hm,p0,p1,hS,hE,f0⟩:=h;exact ⟨i,L,hm,p0,p1,hS,hE.trans e,f0.ext e⟩) _ yk ⟨0,List.replicate y.n rl0,rfl,by omega,by simp,rfl,(Ext.refl _),RatsN.tnil _ _ _ _⟩ ?_)))))))))
  rintro aY _ u12 ⟨i,L,bc,hi,hL,rfl,ab,hR⟩
  refine sq9 (zza 20 (zB (decide ((i:Int)<(y.n:Int)))) (zzb (zzd (zzu (b:=decide ((i:Int)<(y.n:Int))) xj (fun ad=>?_) (fun ad=>?_)))))
  ·have qhb13:=qyt ad
   refine zzs (zzp ?_)
   refine zzd (zzt (sq9 (zza 21 (zI i) (zza 6 (zI i) (zzb (sq9 (zza 22 (zI i) (zza 23 (.v (x.v)) (zza 24 (zI x.n) (zza 25 (zB (decide ((i:Int)<(x.n:Int)))) (zzb ?_)))))))))))
   refine zzu (b:=decide ((i:Int)<(x.n:Int))) xj (fun af=>?_) (fun af=>?_)
   ·have qhb14:=qyt af
    refine zzz [0,0,0,0,12,28,0,0,192,448,1020,2047,4095] [(0,[]),(1,[]),(2,[]),(3,[]),(4,[]),(5,[]),(6,[]),(7,[]),(8,[]),(9,[]),(10,[]),(11,[]),(12,[])] xj xj (zza 26 (.slc 16 0 y.n y.n) (zza 27 (zI i) (zza 28 (.v (y.v)) (zza 29 (zI i) ?_))))
    have hl15:=(hy.ext ab).len
    obtain ⟨be,b15,a7,aE,av,aI⟩:=pol_at (hy.ext ab) (i:=i) xq
    refine zya 30 (a7+i*3) (n:=y.n) (off:=a7) (sz:=3) (i:=(i:Int)) xq aE xq xq sl37 (zym 31 be.cs av ty28 (zza 32 (.v (x.v)) (zza 33 (zI i) ?_)))
    have hl16:=(hx.ext ab).len
    obtain ⟨bf,b16,aU,aP,aS,aF⟩:=pol_at (hx.ext ab) (i:=i) xq
    refine zya 34 (aU+i*3) (n:=x.n) (off:=aU) (sz:=3) (i:=(i:Int)) xq aP xq xq sl37 (zym 35 bf.cs aS ty28 (zzg 36 25 _ fun _ _ al bu=>qym (k_ratAdd bu (aI.ext al) (aF.ext al) xq xq) ?_))
    rintro _ u20 aV ⟨aL,rfl,bz⟩
    refine zyw 37 (off':=i*3) (n:=y.n) (off:=0) (sz:=3) (i:=(i:Int)) sl37 xq xq xq ?_
    refine zyv (V:=⟨28,rcs L⟩) (off:=i*3) (rcs ((L).set i aL)) ty28 zk (zyx (r:=aL) (i:=i) zj rfl) ?_
    refine zzx ?_
    refine zzp (zzf (qwi 46 ((i:Int)+1) (i+1:Nat) xz (zza 19 (zI (i+1:Nat)) (zzx ?_))))
    have ax:i<(addQ l m).length:=by rw[addQ_len];omega
    refine ⟨_,?_,_,by exact zzv _ _ _,i+1,(L).set i aL,rfl,by omega,by simpa using hL,rfl,(ab.t (al.t aV.ext)),RatsN.tstep (hR.ext (al.t aV.ext)) xq ax (RatN.more (K:=(M+K+1)) bz xq) (by have h9:=addQ_co l m i;unfold Nt.co at h9;show _=List.getD _ _ _;rw[h9];exact Rat.add_comm _ _)⟩
    omega
   have qhb14:=qyf af
   refine zzf (zza 38 (.slc 16 0 y.n y.n) (zza 39 (zI i) (zza 40 (.v (y.v)) (zza 41 (zI i) ?_))))
   have hl24:=(hy.ext ab).len
   obtain ⟨bj,b24,a4,ar,au,aN⟩:=pol_at (hy.ext ab) (i:=i) xq
   refine zya 42 (a4+i*3) (n:=y.n) (off:=a4) (sz:=3) (i:=(i:Int)) xq ar xq xq sl37 (zym 43 bj.cs au ty28 (zzg 44 84 _ fun _ _ aO bi=>qym (k_ratTrim bi (aN.ext aO) xq) ?_))
   rintro _ u28 aZ ⟨aQ,rfl,bw⟩
   refine zyw 45 (off':=i*3) (n:=y.n) (off:=0) (sz:=3) (i:=(i:Int)) sl37 xq xq xq ?_
   refine zyv (V:=⟨28,rcs L⟩) (off:=i*3) (rcs ((L).set i aQ)) ty28 zk (zyx (r:=aQ) (i:=i) zj rfl) ?_
   refine zzx ?_
   refine zzp (zzf (qwi 46 ((i:Int)+1) (i+1:Nat) xz (zza 19 (zI (i+1:Nat)) (zzx ?_))))
   have an:i<(addQ l m).length:=by rw[addQ_len];omega
   refine ⟨_,?_,_,by exact zzv _ _ _,i+1,(L).set i aQ,rfl,by omega,by simpa using hL,rfl,(ab.t (aO.t aZ.ext)),RatsN.tstep (hR.ext (aO.t aZ.ext)) xq an (RatN.more (K:=M) bw xq) (by have h9:=addQ_co l m i;unfold Nt.co at h9;show _=List.getD _ _ _;rw[h9];rw[show l.getD i 0=0 from co_ge xq];grind)⟩
   omega
  have qhb13:=qyf ad
  refine zyc (zzp (zzd (zyp (r:=5) (t:=16) [5,16] xw xj zq zq xj (fun ah bD bx bg aC=>?_))))
  have ai:PolN bD ⟨some ⟨ah,0,none⟩,y.n,y.n⟩ (addQ l m) (K+M+1):=pol_data1 aC yv (RatsN.tdone (hR.ext bx) xq (by rw[addQ_len];omega)) xq
  refine zzf (zza 47 (.v (.slice (some ⟨ah,0,none⟩) y.n y.n)) (zzg 48 91 _ fun _ _ a1 bt=>qym (k_cut bt (ai.ext a1).raw xq xk) ?_))
  rintro _ u39 bq rfl
  refine zza 4 (.v (.slice (some ⟨ah,0,none⟩) (trimQ (addQ l m)).length y.n)) (zzb (zzo (ret0 [.slice (some ⟨ah,0,none⟩) (trimQ (addQ l m)).length y.n] ⟨zzq,trivial⟩ fun u42 ba=>?_)))
  refine ⟨(⟨some ⟨ah,0,none⟩,(trimQ (addQ l m)).length,y.n⟩:Sl),rfl,?_⟩
  exact ((cut_N (ai.ext (a1.t bq.ext))).ext ba)
 have qhb11:=qyf ae
 refine zzs (zzp ?_)
 refine sq9 (zza 14 (.v (x.v)) (zza 15 (zI x.n) (sy_make 16 (T:=37) (E:=28) (z:=.agg #[.bool false,qyn,qyn]) (size:=3) (bytes:=56) x.n (rcs (List.replicate x.n rl0)) xj xj rfl rfl xq yv (made_rcs _) ?_)))
 refine zza 5 (.slc 16 0 x.n x.n) (zzc 49 [(0,.v (x.v)),(1,.v (y.v)),(5,.slc 16 0 x.n x.n)] [(16,⟨28,rcs (List.replicate x.n rl0)⟩)] (zzd (sq9 (zza 17 (.slc 16 0 x.n x.n) (zza 18 (zI x.n) (zza 19 (zI 0) (zzc 49 [(0,.v (x.v)),(1,.v (y.v)),(5,.slc 16 0 x.n x.n),(18,zI x.n),(19,zI 0)] [(16,⟨28,rcs (List.replicate x.n rl0)⟩)] (zzt (zyn (I:=fun a0 S' u'=>∃ (i:Nat) (L:List RL),(a0=x.n - i)∧(i≤x.n)∧(L.length=x.n)∧(S'=St.of 49 [(0,.v (x.v)),(1,.v (y.v)),(5,.slc 16 0 x.n x.n),(18,zI x.n),(19,zI i)] [(16,⟨28,rcs L⟩)])∧(Ext u u')∧(RatsN u' (L.take i) ((addQ l m).take i) (K+M+1))) (fun m S u1 u2 e h=>by obtain ⟨i,L,hm,p0,p1,hS,hE,f0⟩:=h;exact ⟨i,L,hm,p0,p1,hS,hE.trans e,f0.ext e⟩) _ yk ⟨0,List.replicate x.n rl0,rfl,by omega,by simp,rfl,(Ext.refl _),RatsN.tnil _ _ _ _⟩ ?_)))))))))
 rintro a0 _ u44 ⟨i,L,bk,hi,hL,rfl,aa,hR⟩
 refine sq9 (zza 20 (zB (decide ((i:Int)<(x.n:Int)))) (zzb (zzd (zzu (b:=decide ((i:Int)<(x.n:Int))) xj (fun ag=>?_) (fun ag=>?_)))))
 ·have qhb45:=qyt ag
  refine zzs (zzp ?_)
  refine zzd (zzt (sq9 (zza 21 (zI i) (zza 6 (zI i) (zzb (sq9 (zza 22 (zI i) (zza 23 (.v (y.v)) (zza 24 (zI y.n) (zza 25 (zB (decide ((i:Int)<(y.n:Int)))) (zzb ?_)))))))))))
  refine zzu (b:=decide ((i:Int)<(y.n:Int))) xj (fun ac=>?_) (fun ac=>?_)
  ·have qhb46:=qyt ac
   refine zzz [0,0,0,0,12,28,0,0,192,448,1020,2047,4095] [(0,[]),(1,[]),(2,[]),(3,[]),(4,[]),(5,[]),(6,[]),(7,[]),(8,[]),(9,[]),(10,[]),(11,[]),(12,[])] xj xj (zza 26 (.slc 16 0 x.n x.n) (zza 27 (zI i) (zza 28 (.v (x.v)) (zza 29 (zI i) ?_))))
   have hl47:=(hx.ext aa).len
   obtain ⟨br,b47,a6,aD,aw,aM⟩:=pol_at (hx.ext aa) (i:=i) xq
   refine zya 30 (a6+i*3) (n:=x.n) (off:=a6) (sz:=3) (i:=(i:Int)) xq aD xq xq sl37 (zym 31 br.cs aw ty28 (zza 32 (.v (y.v)) (zza 33 (zI i) ?_)))
   have hl48:=(hy.ext aa).len
   obtain ⟨a8,b48,aX,ao,aq,aG⟩:=pol_at (hy.ext aa) (i:=i) xq
   refine zya 34 (aX+i*3) (n:=y.n) (off:=aX) (sz:=3) (i:=(i:Int)) xq ao xq xq sl37 (zym 35 a8.cs aq ty28 (zzg 36 25 _ fun _ _ am bh=>qym (k_ratAdd bh (aM.ext am) (aG.ext am) xq xq) ?_))
   rintro _ u52 a2 ⟨ap,rfl,bn⟩
   refine zyw 37 (off':=i*3) (n:=x.n) (off:=0) (sz:=3) (i:=(i:Int)) sl37 xq xq xq ?_
   refine zyv (V:=⟨28,rcs L⟩) (off:=i*3) (rcs ((L).set i ap)) ty28 zk (zyx (r:=ap) (i:=i) zj rfl) ?_
   refine zzx ?_
   refine zzp (zzf (qwi 46 ((i:Int)+1) (i+1:Nat) xz (zza 19 (zI (i+1:Nat)) (zzx ?_))))
   have aB:i<(addQ l m).length:=by rw[addQ_len];omega
   refine ⟨_,?_,_,by exact zzv _ _ _,i+1,(L).set i ap,rfl,by omega,by simpa using hL,rfl,(aa.t (am.t a2.ext)),RatsN.tstep (hR.ext (am.t a2.ext)) xq aB (RatN.more (K:=(K+M+1)) bn xq) (by have h9:=addQ_co l m i;unfold Nt.co at h9;show _=List.getD _ _ _;rw[h9])⟩
   omega
  have qhb46:=qyf ac
  refine zzf (zza 38 (.slc 16 0 x.n x.n) (zza 39 (zI i) (zza 40 (.v (x.v)) (zza 41 (zI i) ?_))))
  have hl56:=(hx.ext aa).len
  obtain ⟨a9,b56,aW,aJ,aR,ay⟩:=pol_at (hx.ext aa) (i:=i) xq
  refine zya 42 (aW+i*3) (n:=x.n) (off:=aW) (sz:=3) (i:=(i:Int)) xq aJ xq xq sl37 (zym 43 a9.cs aR ty28 (zzg 44 84 _ fun _ _ aA bo=>qym (k_ratTrim bo (ay.ext aA) xq) ?_))
  rintro _ u60 a5 ⟨aT,rfl,bs⟩
  refine zyw 45 (off':=i*3) (n:=x.n) (off:=0) (sz:=3) (i:=(i:Int)) sl37 xq xq xq ?_
  refine zyv (V:=⟨28,rcs L⟩) (off:=i*3) (rcs ((L).set i aT)) ty28 zk (zyx (r:=aT) (i:=i) zj rfl) ?_
  refine zzx ?_
  refine zzp (zzf (qwi 46 ((i:Int)+1) (i+1:Nat) xz (zza 19 (zI (i+1:Nat)) (zzx ?_))))
  have aH:i<(addQ l m).length:=by rw[addQ_len];omega
  refine ⟨_,?_,_,by exact zzv _ _ _,i+1,(L).set i aT,rfl,by omega,by simpa using hL,rfl,(aa.t (aA.t a5.ext)),RatsN.tstep (hR.ext (aA.t a5.ext)) xq aH (RatN.more (K:=K) bs xq) (by have h9:=addQ_co l m i;unfold Nt.co at h9;show _=List.getD _ _ _;rw[h9];rw[show m.getD i 0=0 from co_ge xq];grind)⟩
  omega
 have qhb45:=qyf ag
 refine zyc (zzp (zzd (zyp (r:=5) (t:=16) [5,16] xw xj zq zq xj (fun aj bB bl bv aK=>?_))))
 have ak:PolN bB ⟨some ⟨aj,0,none⟩,x.n,x.n⟩ (addQ l m) (K+M+1):=pol_data1 aK yv (RatsN.tdone (hR.ext bl) xq (by rw[addQ_len];omega)) xq
 refine zzf (zza 47 (.v (.slice (some ⟨aj,0,none⟩) x.n x.n)) (zzg 48 91 _ fun _ _ a3 bC=>qym (k_cut bC (ak.ext a3).raw xq xk) ?_))
 rintro _ u71 bA rfl
 refine zza 4 (.v (.slice (some ⟨aj,0,none⟩) (trimQ (addQ l m)).length x.n)) (zzb (zzo (ret0 [.slice (some ⟨aj,0,none⟩) (trimQ (addQ l m)).length x.n] ⟨zzq,trivial⟩ fun u74 bb=>?_)))
 refine ⟨(⟨some ⟨aj,0,none⟩,(trimQ (addQ l m)).length,x.n⟩:Sl),rfl,?_⟩
 exact ((cut_N (ak.ext (a3.t bA.ext))).ext bb)
theorem k_poParts {u w:World} {r:RL} (d:Dat u w):qyc 190 #[r.v] w (Post u w fun v u'=>∃y:Sl,v=.tuple #[.agg #[.bool r.s,r.m.v,y.v],.agg #[.bool false,r.d.v,y.v]]∧NatN u' y 1 1):=by
 refine zzm Tryz.func190 rfl Tryz.ntmps190 Tryz.results190 d ?_
 refine sq9 (zzk 1 ⟨28,r.cs⟩ (zzk 2 ⟨28,zw3⟩ (zzk 3 ⟨28,zw3⟩ (zzb (sq9 (zxx 5 ⟨79,[.int .u32 1]⟩ 1 (fun aa u12 e13 ab=>?_)))))))
 refine zza 4 (.v (.slice (some ⟨aa,0,none⟩) 1 1)) (zzb (zzd (zzz [0,1,0,7,0,16,48,0,240,15,1023] [(0,[]),(1,[]),(2,[]),(3,[]),(4,[]),(5,[]),(6,[]),(7,[]),(8,[]),(9,[10]),(10,[])] xj xj (zza 6 (.adr 1 0) (zzi 7 (.v (.agg #[.bool r.s,r.m.v])) ty26 zze (zza 8 (.v (.slice (some ⟨aa,0,none⟩) 1 1)) (zza 9 (.v (.agg #[.bool r.s,r.m.v,.slice (some ⟨aa,0,none⟩) 1 1])) (zza 10 (.adr 1 2) (zzi 11 (.v (r.d.v)) ty24 zzl (zza 12 (.v (.agg #[.bool false,r.d.v])) (zza 13 (.v (.slice (some ⟨aa,0,none⟩) 1 1)) ?_)))))))))))
 refine zza 14 (.v (.agg #[.bool false,r.d.v,.slice (some ⟨aa,0,none⟩) 1 1])) (zzj ⟨28,[.bool r.s,r.m.v,.slice (some ⟨aa,0,none⟩) 1 1]⟩ ty28 ?_)
 refine zzj ⟨28,[.bool false,r.d.v,.slice (some ⟨aa,0,none⟩) 1 1]⟩ ty28 ?_
 refine zzb (zzo (ret0 [.agg #[.bool r.s,r.m.v,.slice (some ⟨aa,0,none⟩) 1 1],.agg #[.bool false,r.d.v,.slice (some ⟨aa,0,none⟩) 1 1]] ⟨zzr ty28 zze,zzr ty28 zze,trivial⟩ fun u15 ac=>?_))
 exact ⟨(⟨some ⟨aa,0,none⟩,1,1⟩:Sl),rfl,((one_data ab).ext ac)⟩
theorem k_common {u w:World} {r1 r2:RL} {x y:Rat} {K M:Nat} (d:Dat u w) (h1:RatN u r1 x K) (h2:RatV u r2 y M) (hK:K≤40000000) (hM:M≤40000000):qyc 151 #[r1.v,r2.v] w (Post u w fun v u'=>∃r:RL,v=r.v∧RatN u' r (cmn x y) (K+M)):=by
 refine zzm Tryz.func151 rfl Tryz.ntmps151 Tryz.results151 d ?_
 refine sq9 (zzk 2 ⟨28,r1.cs⟩ (zzk 3 ⟨28,r2.cs⟩ (zzk 4 ⟨28,zw3⟩ (zzb (zzd (sq9 (zzi 11 (.v (r1.v)) ty28 zze (zzg 12 29 _ fun _ _ ae au=>qym (k_ratSign au (h1.ext ae).raw) ?_))))))))
 rintro _ u12 af rfl
 refine zza 13 (zB ((sgQ x)==0)) (zzb (zzu (b:=(sgQ x)==0) xj (fun ad=>?_) (fun ad=>?_)))
 ·have ag:x=0:=by have h9:=ad;rw[sgQ_eq] at h9;simpa using h9
  refine sq9 (zzi 14 (.v (r2.v)) ty28 zze (zzg 15 189 _ fun _ _ aC aH=>qym (k_ratAbs aH (h2.ext (ae.t (af.t aC))) xq) ?_))
  rintro _ u19 g20 ⟨aj,rfl,aD⟩
  refine zzj ⟨28,aj.cs⟩ ty28 ?_
  refine zzb (zzo (zzw (ret0 [aj.v] ⟨zzr ty28 zze,trivial⟩ fun u22 aA=>?_)))
  have e9:cmn x y=(absQ y):=by unfold cmn;rw[if_pos ag]
  have hs:=rs_cmn x y
  have hs1:=h1.rs
  have hs2:=h2.rs
  refine ⟨aj,rfl,RatN.fit (K:=M) ?_ xq⟩
  rw[e9]
  exact (aD.ext aA)
 have ag:¬x=0:=by have h9:=ad;rw[sgQ_eq] at h9;simpa using h9
 refine zzs (zzp ?_)
 refine sq9 (zzi 17 (.v (r1.v)) ty28 zze (zzi 18 (.v (r2.v)) ty28 zze (zzg 19 24 _ fun _ _ ai ax=>qym (k_ratDiv ax (h1.ext (ae.t (af.t ai))).raw (h2.ext (ae.t (af.t ai))) xq xq) ?_)))
 rintro _ u28 ao (⟨rfl,ab⟩ | ⟨ab,aa,rfl,aE⟩)
 ·skip
  refine zza 16 (.v (.tuple #[.agg #[.bool false,qyn,qyn],.int .i64 3])) (zza 20 (.v (.agg #[.bool false,qyn,qyn])) (zza 21 (zI 3) (zzk 5 ⟨28,zw3⟩ (zzj ⟨28,zw3⟩ ty28 ?_))))
  refine zza 6 (zI 3) (zzb (zzd (sq9 (zza 22 (zI 3) (zza 23 (zB true) (zzb (zyr xj (sq9 (zzi 24 (.v (r1.v)) ty28 zze (zzj ⟨28,r1.cs⟩ ty28 ?_))))))))))
  refine zzb (zzo (zzw (ret0 [r1.v] ⟨zzr ty28 zze,trivial⟩ fun u31 ap=>?_)))
  have e9:cmn x y=x:=by unfold cmn;rw[if_neg ag,if_pos ab]
  have hs:=rs_cmn x y
  have hs1:=h1.rs
  have hs2:=h2.rs
  refine ⟨r1,rfl,RatN.fit (K:=K) ?_ xq⟩
  rw[e9]
  exact (h1.ext (ae.t (af.t (ai.t (ao.t ap)))))
 refine zza 16 (.v (.tuple #[aa.v,.int .i64 0])) (zza 20 (.v (aa.v)) (zza 21 (zI 0) (zzk 5 ⟨28,zw3⟩ (zzj ⟨28,aa.cs⟩ ty28 ?_))))
 refine zza 6 (zI 0) (zzb (zzd (sq9 (zza 22 (zI 0) (zza 23 (zB false) (zzb (zys xj (zzs (zzp ?_)))))))))
 refine sq9 (zzi 26 (.v (aa.v)) ty28 zze (zzg 27 190 _ fun _ _ an ar=>qym (k_poParts (r:=aa) ar) ?_))
 rintro _ u36 al ⟨ac,rfl,aF⟩
 refine zza 25 (.v (.tuple #[.agg #[.bool aa.s,aa.m.v,ac.v],.agg #[.bool false,aa.d.v,ac.v]])) (zza 28 (.v (.agg #[.bool aa.s,aa.m.v,ac.v])) (zza 29 (.v (.agg #[.bool false,aa.d.v,ac.v])) (zzk 7 ⟨28,zw3⟩ (zzk 8 ⟨28,zw3⟩ (zzj ⟨28,[.bool aa.s,aa.m.v,ac.v]⟩ ty28 ?_)))))
 refine zzj ⟨28,[.bool false,aa.d.v,ac.v]⟩ ty28 ?_
 refine zzb (sq9 (zzi 31 (.v (r1.v)) ty28 zze (zzi 32 (.v (.agg #[.bool aa.s,aa.m.v,ac.v])) ty28 zze (zzg 33 24 _ fun _ _ am ay=>qym (k_ratDiv1 ay (h1.ext (ae.t (af.t (ai.t (ao.t (an.t (al.t am))))))).raw ((whole_rat (RatN.num (aE.ext (an.t al.ext))) aF).ext am).raw (num_ne (div_ne ag ab)) xq xq) ?_))))
 rintro _ u42 g43 ⟨ah,rfl,aq⟩
 refine zza 30 (.v (.tuple #[ah.v,.int .i64 0])) (zza 34 (.v (ah.v)) (zza 35 (zI 0) (zzk 9 ⟨28,zw3⟩ (zzj ⟨28,ah.cs⟩ ty28 ?_))))
 refine zza 10 (zI 0) (zzc 38 [(4,.adr 4 0),(9,.adr 9 0)] [(4,⟨28,zw3⟩),(9,⟨28,ah.cs⟩)] (sq9 (zzi 36 (.v (ah.v)) ty28 zze (zzg 37 189 _ fun _ _ aB av=>qym (k_ratAbs av (aq.ext aB).raw xq) ?_))))
 rintro _ u48 g49 ⟨ak,rfl,aw⟩
 refine zzj ⟨28,ak.cs⟩ ty28 ?_
 refine zzb (zzo (ret0 [ak.v] ⟨zzr ty28 zze,trivial⟩ fun u51 aG=>?_))
 have e9:cmn x y=(absQ (x / (((x / y).num:Int):Rat))):=by unfold cmn;rw[if_neg ag,if_neg ab]
 have hs:=rs_cmn x y
 have hs1:=h1.rs
 have hs2:=h2.rs
 refine ⟨ak,rfl,RatN.fit (K:=(K+(max (K+M) 1))) ?_ xq⟩
 rw[e9]
 exact (aw.ext aG)
theorem k_split {u w:World} {x:Sl} {l:List Rat} {K:Nat} (d:Dat u w) (hx:PolV u x l K) (hK:(l.length+1)*K≤30000000) (hx9:l.length≤1000000000):qyc 92 #[x.v] w (Post u w fun v u'=>∃ (r:RL) (y:Sl),v=.tuple #[r.v,y.v]∧RatN u' r (msr (trimQ l)) ((trimQ l).length*K+2)∧PolN u' y ((trimQ l).map (· / msr (trimQ l))) (K+((trimQ l).length*K+2))):=by
 have hlen:=hx.len
 have htl:=zzh l
 have hKK:(trimQ l).length*K≤l.length*K:=Nat.mul_le_mul_right _ htl
 rw[Nat.add_mul] at hK
 refine zzm Tryz.func92 rfl Tryz.ntmps92 Tryz.results92 d ?_
 refine sq9 (zzk 2 ⟨28,zw3⟩ (zza 3 (.v (qyn)) (zzb (sq9 (zza 10 (.v (x.v)) (zzg 11 91 _ fun _ _ ad aP=>qym (k_cut aP (hx.ext ad) xq xk) ?_))))))
 rintro _ u12 aj rfl
 refine zza 0 (.v (.slice x.a (trimQ l).length x.c)) (zzb (sq9 (zzg 12 23 _ fun _ _ ak aQ=>qym (k_ratOf aQ (z:=0) xq xq) ?_)))
 rintro _ aT ah ⟨aL,rfl,aN⟩
 refine zzk 4 ⟨28,zw3⟩ (zzj ⟨28,aL.cs⟩ ty28 ?_)
 refine zzb (zzd (sq9 (zza 13 (.v (.slice x.a (trimQ l).length x.c)) (zza 14 (zI (((trimQ l).length:Nat):Int)) (zza 15 (zI 0) (zzb (zzt (zyn (I:=fun aK S' u'=>∃ (i:Nat) (r:RL),(aK=(trimQ l).length - i)∧(i≤(trimQ l).length)∧(S'=St.of 45 [(0,.v (.slice x.a (trimQ l).length x.c)),(2,.adr 2 0),(4,.adr 4 0),(13,.v (.slice x.a (trimQ l).length x.c)),(14,zI (((trimQ l).length:Nat):Int)),(15,zI i)] [(2,⟨28,zw3⟩),(4,⟨28,r.cs⟩)])∧(Ext aT u')∧(RatN u' r (msr ((trimQ l).take i)) (i*K+2))) (fun m S u1 u2 e h=>by obtain ⟨i,r,hm,p0,hS,hE,f0⟩:=h;exact ⟨i,r,hm,p0,hS,hE.trans e,f0.ext e⟩) _ yk ⟨0,aL,rfl,by omega,rfl,(Ext.refl _),(RatN.more (K:=2) aN xq)⟩ ?_))))))))
 rintro aK _ aA ⟨i,r,aO,hi,rfl,af,hM⟩
 have hiK:i*K≤(trimQ l).length*K:=Nat.mul_le_mul_right _ hi
 refine sq9 (zza 16 (zB (decide ((i:Int)<(((trimQ l).length:Nat):Int)))) (zzb (zzd (zzu (b:=decide ((i:Int)<(((trimQ l).length:Nat):Int))) xj (fun aa=>?_) (fun aa=>?_)))))
 ·have qhb22:=qyt aa
  refine zzs (zzp ?_)
  refine zzd (zzt (sq9 ?_))
  have hl23:=((cut_V (hx.ext (ad.t aj.ext))).ext (ak.t (ah.t af))).len
  change (trimQ l).length=_ at hl23
  obtain ⟨ax,b23,aE,an,av,ao⟩:=pol_at ((cut_V (hx.ext (ad.t aj.ext))).ext (ak.t (ah.t af))) (i:=i) xq
  refine zya 17 (aE+i*3) (n:=(trimQ l).length) (off:=aE) (sz:=3) (i:=(i:Int)) xq an xq xq sl37 (zym 18 ax.cs av ty28 (zzk 6 ⟨28,zw3⟩ (zzj ⟨28,ax.cs⟩ ty28 ?_)))
  refine zzb (zzf (zzi 19 (.v (r.v)) ty28 zze (zzi 20 (.v (ax.v)) ty28 zze (zzg 21 151 _ fun _ _ ay aR=>qym (k_common aR (hM.ext ay) (ao.ext ay) xq xq) ?_))))
  rintro _ u27 aU ⟨aC,rfl,aV⟩
  refine zzj ⟨28,aC.cs⟩ ty28 ?_
  refine zzx ?_
  refine zzp (zzf (qwi 22 ((i:Int)+1) (i+1:Nat) xz (zza 15 (zI (i+1:Nat)) (zzx ?_))))
  refine ⟨_,?_,_,by exact zzv _ _ _,i+1,aC,rfl,by omega,rfl,(af.t (ay.t aU.ext)),(RatN.more (K:=((i*K+2)+K)) (by rw[msr_take xq];exact aV) (by rw[Nat.add_mul];omega))⟩
  omega
 have qhb22:=qyf aa
 refine zyc (zzp (zzd ?_))
 have aD:i=(trimQ l).length:=by omega
 have hms:RatN aA r (msr (trimQ l)) ((trimQ l).length*K+2):=by have h9:=hM;rw[aD,List.take_length] at h9;exact h9
 clear aD
 refine zzf (zza 23 (.v (.slice x.a (trimQ l).length x.c)) (zza 24 (zI (((trimQ l).length:Nat):Int)) (sy_make 25 (T:=37) (E:=28) (z:=.agg #[.bool false,qyn,qyn]) (size:=3) (bytes:=56) ((trimQ l).length) (rcs (List.replicate ((trimQ l).length) rl0)) xj xj rfl rfl xq yv (made_rcs _) ?_)))
 refine zza 7 (.slc 25 0 ((trimQ l).length) ((trimQ l).length)) (zzc 45 [(0,.v (.slice x.a (trimQ l).length x.c)),(2,.adr 2 0),(4,.adr 4 0),(7,.slc 25 0 ((trimQ l).length) ((trimQ l).length))] [(2,⟨28,zw3⟩),(4,⟨28,r.cs⟩),(25,⟨28,rcs (List.replicate ((trimQ l).length) rl0)⟩)] (zzd (sq9 (zza 26 (.v (.slice x.a (trimQ l).length x.c)) (zza 27 (zI (((trimQ l).length:Nat):Int)) (zza 28 (zI 0) (zzb (zzt (zyn (I:=fun aJ S' u'=>∃ (i2:Nat) (L2:List RL),(aJ=((trimQ l).length) - i2)∧(i2≤(trimQ l).length)∧(L2.length=(trimQ l).length)∧(S'=St.of 45 [(2,.adr 2 0),(4,.adr 4 0),(7,.slc 25 0 ((trimQ l).length) ((trimQ l).length)),(26,.v (.slice x.a (trimQ l).length x.c)),(27,zI (((trimQ l).length:Nat):Int)),(28,zI i2)] [(2,⟨28,zw3⟩),(4,⟨28,r.cs⟩),(25,⟨28,rcs L2⟩)])∧(Ext aA u')∧(RatsN u' (L2.take i2) (((trimQ l).map (· / msr (trimQ l))).take i2) (K+((trimQ l).length*K+2)))) (fun m S u1 u2 e h=>by obtain ⟨i2,L2,hm,p0,p1,hS,hE,f0⟩:=h;exact ⟨i2,L2,hm,p0,p1,hS,hE.trans e,f0.ext e⟩) _ yk ⟨0,List.replicate ((trimQ l).length) rl0,rfl,by omega,by simp,rfl,(Ext.refl _),RatsN.tnil _ _ _ _⟩ ?_)))))))))
 rintro aJ _ u30 ⟨i2,L2,aY,hi2,aZ,rfl,ae,aF⟩
 refine sq9 (zza 29 (zB (decide ((i2:Int)<(((trimQ l).length:Nat):Int)))) (zzb (zzd (zzu (b:=decide ((i2:Int)<(((trimQ l).length:Nat):Int))) xj (fun ab=>?_) (fun ab=>?_)))))
 ·have qhb31:=qyt ab
  refine zzs (zzp ?_)
  refine zzd (zzt (sq9 (zza 30 (zI i2) ?_)))
  have hl32:=((cut_V (hx.ext (ad.t aj.ext))).ext (ak.t (ah.t (af.trans ae)))).len
  change (trimQ l).length=_ at hl32
  obtain ⟨au,b32,aI,am,aw,aq⟩:=pol_at ((cut_V (hx.ext (ad.t aj.ext))).ext (ak.t (ah.t (af.trans ae)))) (i:=i2) xq
  refine zya 31 (aI+i2*3) (n:=(trimQ l).length) (off:=aI) (sz:=3) (i:=(i2:Int)) xq am xq xq sl37 (zym 32 au.cs aw ty28 (zzk 9 ⟨28,zw3⟩ (zza 8 (zI i2) (zzj ⟨28,au.cs⟩ ty28 ?_))))
  refine zzb (zzf (zza 34 (.slc 25 0 ((trimQ l).length) ((trimQ l).length)) (zza 35 (zI i2) (zzi 36 (.v (au.v)) ty28 zze (zzi 37 (.v (r.v)) ty28 zze (zzg 38 24 _ fun _ _ ai aM=>qym (k_ratDiv1 aM (aq.ext ai) (hms.ext (ae.trans ai)).raw (msr_ne (trim_nrm l) xq) xq xq) ?_))))))
  rintro _ u36 aB ⟨ac,rfl,aW⟩
  refine zza 33 (.v (.tuple #[ac.v,.int .i64 0])) (zza 39 (.v (ac.v)) (zza 40 (zI 0) (zyw 41 (off':=i2*3) (n:=(trimQ l).length) (off:=0) (sz:=3) (i:=(i2:Int)) sl37 xq xq xq ?_)))
  refine zyv (V:=⟨28,rcs L2⟩) (off:=i2*3) (rcs ((L2).set i2 ac)) ty28 zk (zyx (r:=ac) (i:=i2) zj rfl) ?_
  refine zzx ?_
  refine zzp (zzf (qwi 42 ((i2:Int)+1) (i2+1:Nat) xz (zza 28 (zI (i2+1:Nat)) (zzx ?_))))
  have al:i2<((trimQ l).map (· / msr (trimQ l))).length:=by simp;omega
  refine ⟨_,?_,_,by exact zzv _ _ _,i2+1,(L2).set i2 ac,rfl,by omega,by simpa using aZ,rfl,(ae.t (ai.t aB.ext)),RatsN.tstep (aF.ext (ai.t aB.ext)) xq al (RatN.more (K:=(K+((trimQ l).length*K+2))) aW xq) (by simp[List.getElem?_eq_getElem (show i2<(trimQ l).length by omega)])⟩
  omega
 have qhb31:=qyf ab
 refine zyc (zzp (zzd (zyp (r:=7) (t:=25) [7,25] xw xj zq zq xj (fun ag aX aH aS ar=>?_))))
 have ap:PolN aX ⟨some ⟨ag,0,none⟩,(trimQ l).length,(trimQ l).length⟩ ((trimQ l).map (· / msr (trimQ l))) (K+((trimQ l).length*K+2)):=pol_data1 ar yv (RatsN.tdone (aF.ext aH) xq yy) xq
 refine zzf (zzi 43 (.v (r.v)) ty28 zze (zza 44 (.v (.slice (some ⟨ag,0,none⟩) ((trimQ l).length) ((trimQ l).length))) (zzj ⟨28,r.cs⟩ ty28 ?_)))
 refine zza 3 (.v (.slice (some ⟨ag,0,none⟩) ((trimQ l).length) ((trimQ l).length))) (zzb (zzo (ret0 [r.v,.slice (some ⟨ag,0,none⟩) ((trimQ l).length) ((trimQ l).length)] ⟨zzr ty28 zze,zzq,trivial⟩ fun u46 aG=>?_)))
 exact ⟨r,(⟨some ⟨ag,0,none⟩,(trimQ l).length,(trimQ l).length⟩:Sl),rfl,(hms.ext (ae.trans (aH.trans aG))),(ap.ext aG)⟩
theorem k_poMul {u w:World} {x:Sl} {l:List Rat} {y:Sl} {m:List Rat} {K M:Nat} (d:Dat u w) (hx:PolV u x l K) (hy:PolV u y m M) (hB:mlK l.length m.length K M≤30000000) (hK1:(l.length+1)*K≤20000000) (hM1:(m.length+1)*M≤20000000) (hx9:l.length≤100000000) (hy9:m.length≤100000000):qyc 32 #[x.v,y.v] w (Post u w fun v u'=>∃y:Sl,v=y.v∧PolN u' y (trimQ (Nt.mulQ l m)) (mlK l.length m.length K M)):=by
 have hlen:=hx.len
 have hlen2:=hy.len
 have htl:=zzh l
 have htm:=zzh m
 have hB2:=Nat.le_trans (mlK_mono htl htm (Nat.le_refl K) (Nat.le_refl M)) hB
 have hB3:Nt.kk ((K+((trimQ l).length*K+2))+(M+((trimQ m).length*M+2))+1) ((trimQ l).length*(trimQ m).length)+(((trimQ l).length*K+2)+((trimQ m).length*M+2))≤30000000:=hB2
 have hK2:=hK1
 have hM2:=hM1
 rw[Nat.add_mul] at hK2 hM2
 have hKK:(trimQ l).length*K≤l.length*K:=Nat.mul_le_mul_right _ htl
 have hMM:(trimQ m).length*M≤m.length*M:=Nat.mul_le_mul_right _ htm
 refine zzm Tryz.func32 rfl Tryz.ntmps32 Tryz.results32 d ?_
 refine sq9 (zza 4 (.v (qyn)) (zzb (sq9 (zza 15 (.v (x.v)) (zzg 16 92 _ fun _ _ aB a4=>qym (k_split a4 (hx.ext aB) xq xk) ?_)))))
 rintro _ u16 aT ⟨ag,aa,rfl,bi,aK⟩
 have aw:aa.n=(trimQ l).length:=by have h9:=aK.len;simpa using h9
 refine zza 14 (.v (.tuple #[ag.v,aa.v])) (zza 17 (.v (ag.v)) (zza 18 (.v (aa.v)) (zzk 5 ⟨28,zw3⟩ (zzj ⟨28,ag.cs⟩ ty28 ?_))))
 refine zza 6 (.v (aa.v)) (zzb (sq9 (zza 20 (.v (y.v)) (zzg 21 92 _ fun _ _ av bu=>qym (k_split bu (hy.ext (aB.t (aT.t av))) xq xk) ?_))))
 rintro _ u24 aA ⟨aj,ab,rfl,bs,aL⟩
 have au:ab.n=(trimQ m).length:=by have h9:=aL.len;simpa using h9
 refine zza 19 (.v (.tuple #[aj.v,ab.v])) (zza 22 (.v (aj.v)) (zza 23 (.v (ab.v)) (zzk 7 ⟨28,zw3⟩ (zzj ⟨28,aj.cs⟩ ty28 ?_))))
 refine zza 8 (.v (ab.v)) (zzb (zzd (sq9 (zza 24 (.v (aa.v)) (zza 25 (zI aa.n) (zza 26 (zB ((aa.n:Int)==0)) ?_))))))
 rcases Bool.eq_false_or_eq_true ((aa.n:Int)==0) with hs27 | hs27
 ·refine qbi 27 hs27 ?_
  have aq:(aa.n:Int)=0:=by simpa using hs27
  refine zzn 28 (uw 3 false true 27) (zzn 29 (uw 3 false true 27) (zzn 30 (uw 3 false true 27) (zza 31 (zB true) (zzb (zyr xj (sq9 (zza 4 (.v (qyn)) (zzb (zzo (zzw (ret0 [qyn] ⟨zzq,trivial⟩ fun u28 e29=>?_)))))))))))
  have e9:trimQ l=[]:=List.eq_nil_of_length_eq_zero xq
  rw[mul_nil (.inl e9)]
  exact ⟨⟨none,0,0⟩,rfl,pol_nil _ _⟩
 refine qbi 27 hs27 ?_
 have aq:¬((aa.n:Int)=0):=by simpa using hs27
 refine zza 28 (.v (ab.v)) ?_ (hw:=w1 3 false 27)
 refine zza 29 (zI ab.n) ?_ (hw:=w1 3 false 27)
 refine zza 30 (zB ((ab.n:Int)==0)) ?_ (hw:=w1 3 false 27)
 refine zza 31 (zB ((ab.n:Int)==0)) (zzb (zzu (b:=(ab.n:Int)==0) xj (fun ah=>?_) (fun ah=>?_)))
 ·have ao:(ab.n:Int)=0:=by simpa using ah
  refine sq9 (zza 4 (.v (qyn)) (zzb (zzo (zzw (ret0 [qyn] ⟨zzq,trivial⟩ fun u31 e32=>?_)))))
  have e9:trimQ m=[]:=List.eq_nil_of_length_eq_zero xq
  rw[mul_nil (.inr e9)]
  exact ⟨⟨none,0,0⟩,rfl,pol_nil _ _⟩
 have ao:¬((ab.n:Int)=0):=by simpa using ah
 refine zzs (zzp ?_)
 refine sq9 (zza 32 (.v (aa.v)) (zza 33 (zI aa.n) (zza 34 (.v (ab.v)) (zza 35 (zI ab.n) (qwi 36 ((aa.n:Int)+(ab.n:Int)) (aa.n+ab.n:Nat) xz (qwi 37 (((aa.n+ab.n:Nat):Int) - 1) (((aa.n+ab.n) - 1:Nat):Int) xz (zzg 38 93 _ fun _ _ ak a3=>qym (k_zeros (n:=(aa.n+ab.n) - 1) a3 xq) ?_)))))))
 rintro _ u40 am ⟨aY,a6,rfl,ac,ar,a5,hR39⟩
 refine zza 9 (.v (.slice (some ⟨aY,0,none⟩) ((aa.n+ab.n) - 1) ((aa.n+ab.n) - 1))) (zzc 75 [(5,.adr 5 0),(6,.v (aa.v)),(7,.adr 7 0),(8,.v (ab.v)),(9,.v (.slice (some ⟨aY,0,none⟩) ((aa.n+ab.n) - 1) ((aa.n+ab.n) - 1)))] [(5,⟨28,ag.cs⟩),(7,⟨28,aj.cs⟩)] (zzd (zzd (sw_adopt (r:=9) (k:=9) zq ((Ext.refl _).cells ar) (Nat.le_trans ((aB.t (aT.t (av.t (aA.t ak)))).size) ac) xj (fun bo ad=>?_)))))
 replace hR39:=(hR39.ext (Ext.refl _)).extB ((Ext.refl _).cells ar) ad
 refine zzf (zza 39 (.v (aa.v)) (zza 40 (zI aa.n) (zza 41 (zI 0) (zzb (zzt (zyn (I:=fun aS S' u'=>∃ (i:Nat) (L:List RL),(aS=(trimQ l).length - i)∧(i≤(trimQ l).length)∧(L.length=((trimQ l).length+(trimQ m).length - 1))∧(S'=St.of 75 [(5,.adr 5 0),(7,.adr 7 0),(8,.v (ab.v)),(9,.slc 9 0 ((aa.n+ab.n) - 1) ((aa.n+ab.n) - 1)),(39,.v (aa.v)),(40,zI aa.n),(41,zI i)] [(5,⟨28,ag.cs⟩),(7,⟨28,aj.cs⟩),(9,⟨28,rcs L⟩)])∧(Ext bo u')∧(RatsN u' L (outQ ((trimQ l).map (· / msr (trimQ l))) ((trimQ m).map (· / msr (trimQ m))) ((trimQ l).length+(trimQ m).length - 1) i) (Nt.kk ((K+((trimQ l).length*K+2))+(M+((trimQ m).length*M+2))+1) (i*(trimQ m).length)))) (fun m S u1 u2 e h=>by obtain ⟨i,L,hm,p0,p1,hS,hE,f0⟩:=h;exact ⟨i,L,hm,p0,p1,hS,hE.trans e,f0.ext e⟩) _ yk ⟨0,a6,rfl,by omega,by omega,rfl,(Ext.refl _),(RatsN.more (K:=2) (by have h9:=hR39;rw[aw,au] at h9;exact h9) (by unfold Nt.kk;omega))⟩ ?_))))))
 rintro aS _ aX ⟨i,L,bj,hi,hL,rfl,ai,hR⟩
 refine sq9 (zza 42 (zB (decide ((i:Int)<(aa.n:Int)))) (zzb (zzd (zzu (b:=decide ((i:Int)<(aa.n:Int))) xj (fun af=>?_) (fun af=>?_)))))
 ·have qhb46:=qyt af
  refine zzs (zzp ?_)
  refine zzd (zzt (sq9 (zza 43 (zI i) ?_)))
  have hl47:=(aK.ext (av.t (aA.t (ak.trans ((ExtB.old ad am.ext ac).trans ai))))).len
  obtain ⟨ay,b47,a2,aJ,aI,aP⟩:=pol_atN (aK.ext (av.t (aA.t (ak.trans ((ExtB.old ad am.ext ac).trans ai))))) (i:=i) xq
  refine zya 44 (a2+i*3) (n:=aa.n) (off:=a2) (sz:=3) (i:=(i:Int)) xq aJ xq xq sl37 (zym 45 ay.cs aI ty28 (zzk 11 ⟨28,zw3⟩ (zza 10 (zI i) (zzj ⟨28,ay.cs⟩ ty28 ?_))))
  refine zzb (sq9 (zza 46 (.v (ab.v)) (zza 47 (zI ab.n) (zza 48 (zI 0) (zzb (zzt (zyn (I:=fun a1 S' u'=>∃ (j:Nat) (M9:List RL),(a1=(trimQ m).length - j)∧(j≤(trimQ m).length)∧(M9.length=((trimQ l).length+(trimQ m).length - 1))∧(S'=St.of 75 [(5,.adr 5 0),(7,.adr 7 0),(8,.v (ab.v)),(9,.slc 9 0 ((aa.n+ab.n) - 1) ((aa.n+ab.n) - 1)),(10,zI i),(11,.adr 11 0),(39,.v (aa.v)),(40,zI aa.n),(41,zI i),(46,.v (ab.v)),(47,zI ab.n),(48,zI j)] [(5,⟨28,ag.cs⟩),(7,⟨28,aj.cs⟩),(9,⟨28,rcs M9⟩),(11,⟨28,ay.cs⟩)])∧(Ext aX u')∧(RatsN u' M9 (inn (outQ ((trimQ l).map (· / msr (trimQ l))) ((trimQ m).map (· / msr (trimQ m))) ((trimQ l).length+(trimQ m).length - 1) i) i (((trimQ l).map (· / msr (trimQ l))).getD i 0) ((trimQ m).map (· / msr (trimQ m))) j) (Nt.kk ((K+((trimQ l).length*K+2))+(M+((trimQ m).length*M+2))+1) (i*(trimQ m).length+j)))) (fun m S u1 u2 e h=>by obtain ⟨j,M9,hm,p0,p1,hS,hE,f0⟩:=h;exact ⟨j,M9,hm,p0,p1,hS,hE.trans e,f0.ext e⟩) _ yk ⟨0,L,rfl,by omega,by omega,rfl,(Ext.refl _),hR⟩ ?_)))))))
  rintro a1 _ u48 ⟨j,M9,bh,hj,hM9,rfl,ap,hQ⟩
  have hmm:=Nat.mul_le_mul_right (trimQ m).length (show i+1≤(trimQ l).length by omega)
  rw[Nat.add_mul] at hmm
  have hkk:=kk_mono (W:=((K+((trimQ l).length*K+2))+(M+((trimQ m).length*M+2))+1)) (t:=i*(trimQ m).length+j) (t':=(trimQ l).length*(trimQ m).length) qyl xq
  have hk2:=kk_succ ((K+((trimQ l).length*K+2))+(M+((trimQ m).length*M+2))+1) (i*(trimQ m).length+j)
  refine sq9 (zza 49 (zB (decide ((j:Int)<(ab.n:Int)))) (zzb (zzd (zzu (b:=decide ((j:Int)<(ab.n:Int))) xj (fun al=>?_) (fun al=>?_)))))
  ·have qhb49:=qyt al
   refine zzs (zzp ?_)
   refine zzd (zzt (sq9 (zza 50 (zI j) ?_)))
   have hl50:=(aL.ext (ak.trans ((ExtB.old ad am.ext ac).trans (ai.trans ap)))).len
   obtain ⟨aC,b50,aW,aN,aE,aO⟩:=pol_atN (aL.ext (ak.trans ((ExtB.old ad am.ext ac).trans (ai.trans ap)))) (i:=j) xq
   refine zya 51 (aW+j*3) (n:=ab.n) (off:=aW) (sz:=3) (i:=(j:Int)) xq aN xq xq sl37 (zym 52 aC.cs aE ty28 (zzk 13 ⟨28,zw3⟩ (zza 12 (zI j) (zzj ⟨28,aC.cs⟩ ty28 ?_))))
   refine zzb (zzz [0,0,0,6,0,0,0,96,240,496,0,0,3072,8176,16383,32767] [(0,[]),(1,[]),(2,[]),(3,[]),(4,[]),(5,[]),(6,[]),(7,[]),(8,[]),(9,[]),(10,[]),(11,[]),(12,[]),(13,[]),(14,[]),(15,[])] xj xj (zza 53 (.slc 9 0 ((aa.n+ab.n) - 1) ((aa.n+ab.n) - 1)) (zza 54 (zI i) (zza 55 (zI j) (qwi 56 ((i:Int)+(j:Int)) (i+j:Nat) xz (zza 57 (.slc 9 0 ((aa.n+ab.n) - 1) ((aa.n+ab.n) - 1)) (zza 58 (zI i) (zza 59 (zI j) (qwi 60 ((i:Int)+(j:Int)) (i+j:Nat) xz (zyw 61 (off':=(i+j)*3) (n:=(aa.n+ab.n) - 1) (off:=0) (sz:=3) (i:=((i+j:Nat):Int)) sl37 xq xq xq ?_))))))))))
   obtain ⟨bq,ae⟩:∃r:RL,(M9).getD (i+j) rl0=r:=⟨_,rfl⟩
   refine zzi 62 (V:=⟨28,rcs M9⟩) (off:=(i+j)*3) (.v bq.v) ty28 (by have h9:=part_rcs (L:=M9) (i:=i+j) (off:=(i+j)*3) zj rfl;rw[ae] at h9;exact h9) ?_
   have h52:=hQ.2 (i+j) zj
   rw[ae] at h52
   refine zzi 63 (.v (ay.v)) ty28 zze (zzi 64 (.v (aC.v)) ty28 zze (zzg 65 28 _ fun _ _ an bn=>qym (k_ratMul bn (aP.ext (ap.trans an)).raw (aO.ext an).raw xq xq) ?_))
   rintro _ u56 aG ⟨r54,rfl,bt⟩
   refine zzg 66 25 _ fun _ _ ax a8=>qym (k_ratAdd a8 (h52.ext (an.t (aG.t ax))).raw (bt.ext ax).raw xq xq) ?_
   rintro _ u62 a0 ⟨aH,rfl,bc⟩
   refine zyw 67 (off':=(i+j)*3) (n:=(aa.n+ab.n) - 1) (off:=0) (sz:=3) (i:=((i+j:Nat):Int)) sl37 xq xq xq ?_
   refine zyv (V:=⟨28,rcs M9⟩) (off:=(i+j)*3) (rcs ((M9).set (i+j) aH)) ty28 zk (zyx (r:=aH) (i:=i+j) zj rfl) ?_
   refine zzx ?_
   refine zzp (zzf (qwi 68 ((j:Int)+1) (j+1:Nat) xz (zza 48 (zI (j+1:Nat)) (zzx ?_))))
   refine ⟨_,?_,_,by exact zzv _ _ _,j+1,(M9).set (i+j) aH,rfl,by omega,by simp;omega,rfl,(ap.t (an.t (aG.t (ax.t a0.ext)))),(RatsN.set (i:=i+j) (RatsN.more (K:=Nt.kk ((K+((trimQ l).length*K+2))+(M+((trimQ m).length*M+2))+1) (i*(trimQ m).length+j)) (hQ.ext (an.t (aG.t (ax.t a0.ext)))) (by show _≤Nt.kk _ (i*(trimQ m).length+j+1);omega)) yy (RatN.more (K:=((Nt.kk ((K+((trimQ l).length*K+2))+(M+((trimQ m).length*M+2))+1) (i*(trimQ m).length+j))+((K+((trimQ l).length*K+2))+(M+((trimQ m).length*M+2)))+1)) bc (by show _≤Nt.kk _ (i*(trimQ m).length+j+1);omega)))⟩
   omega
  have qhb49:=qyf al
  refine zyc (zzp (zzf (qwi 69 ((i:Int)+1) (i+1:Nat) xz (zza 41 (zI (i+1:Nat)) (zzx ?_)))))
  have bk:j=(trimQ m).length:=by omega
  refine ⟨_,?_,_,by exact zzv _ _ _,i+1,M9,rfl,by omega,by omega,rfl,(ai.trans ap),(by have h9:=hQ;rw[bk,← Nat.succ_mul] at h9;have e9:((trimQ m).map (· / msr (trimQ m))).length=(trimQ m).length:=zv;show RatsN _ _ (inn _ _ _ _ ((trimQ m).map (· / msr (trimQ m))).length) _;rw[e9];exact h9)⟩
  omega
 have qhb46:=qyf af
 refine zyc (zzp (zzd ?_))
 have ba:i=(trimQ l).length:=by omega
 have bb:RatsN aX L (outQ ((trimQ l).map (· / msr (trimQ l))) ((trimQ m).map (· / msr (trimQ m))) ((trimQ l).length+(trimQ m).length - 1) ((trimQ l).length)) (Nt.kk ((K+((trimQ l).length*K+2))+(M+((trimQ m).length*M+2))+1) ((trimQ l).length*(trimQ m).length)):=by have h9:=hR;rw[ba] at h9;exact h9
 refine zyp (r:=9) (t:=9) [9] xw xj zq zq xj (fun aZ br aM be aD=>?_)
 have aQ:PolN br ⟨some ⟨aZ,0,none⟩,(aa.n+ab.n) - 1,(aa.n+ab.n) - 1⟩ (outQ ((trimQ l).map (· / msr (trimQ l))) ((trimQ m).map (· / msr (trimQ m))) ((trimQ l).length+(trimQ m).length - 1) ((trimQ l).length)) (Nt.kk ((K+((trimQ l).length*K+2))+(M+((trimQ m).length*M+2))+1) ((trimQ l).length*(trimQ m).length)):=pol_data1 aD yv (bb.ext aM) xq
 refine zzf (zza 70 (.v (.slice (some ⟨aZ,0,none⟩) ((aa.n+ab.n) - 1) ((aa.n+ab.n) - 1))) (zzi 71 (.v (ag.v)) ty28 zze (zzi 72 (.v (aj.v)) ty28 zze (zzg 73 28 _ fun _ _ aR bf=>qym (k_ratMul bf (bi.ext (av.t (aA.t (ak.trans ((ExtB.old ad am.ext ac).trans (ai.trans (aM.trans aR))))))).raw (bs.ext (ak.trans ((ExtB.old ad am.ext ac).trans (ai.trans (aM.trans aR))))).raw xq xq) ?_))))
 rintro _ u74 bl ⟨r72,rfl,a9⟩
 refine zzg 74 31 _ fun _ _ aU bg=>qym (k_poScale bg (aQ.ext (aR.t (bl.t aU))).raw (a9.ext aU).raw xq xk xq) ?_
 rintro _ u80 g81 ⟨aF,rfl,aV⟩
 have hly78:=aV.len
 refine zza 4 (.v (aF.v)) (zzb (zzo (ret0 [aF.v] ⟨zzq,trivial⟩ fun u83 a7=>?_)))
 have h8:=mul_parts (msr_ne (trim_nrm l) xq) (msr_ne (trim_nrm m) xq) (l:=(trimQ l)) (m:=(trimQ m)) xq xq
 refine ⟨aF,rfl,PolN.more (K:=((Nt.kk ((K+((trimQ l).length*K+2))+(M+((trimQ m).length*M+2))+1) ((trimQ l).length*(trimQ m).length))+(((trimQ l).length*K+2)+((trimQ m).length*M+2)))) ?_ ?_⟩
 ·rw[← mul_trim,← h8]
  exact (aV.ext a7)
 exact Nat.le_trans (Nat.add_le_add_left qyl _) (mlK_mono (n:=(trimQ l).length) (m:=(trimQ m).length) htl htm (Nat.le_refl K) (Nat.le_refl M))
theorem k_r5Trim {u w:World} {x:Sl} {l:List Rat} {K:Nat} (d:Dat u w) (hx:PolV u x l K) (hK:K≤50000000) (hx9:l.length≤1000000000):qyc 52 #[x.v] w (Post u w fun v u'=>∃y:Sl,v=y.v∧PolN u' y (trimQ l) K):=by
 have hlen:=hx.len
 have htl:=zzh l
 refine zzm Tryz.func52 rfl Tryz.ntmps52 Tryz.results52 d ?_
 refine sq9 (zza 2 (.v (qyn)) (zzb (sq9 (zza 7 (.v (x.v)) (zza 8 (zI x.n) (zza 3 (zI x.n) (zzb (zzd (zzt (zyn (I:=fun bR S' u'=>∃ (n:Nat),(bR=n)∧(n≤l.length)∧(∀i,n≤i→Nt.co l i=0)∧(S'=St.of 37 [(0,.v (x.v)),(3,zI n)] [])∧(Ext u u')) (fun m S u1 u2 e h=>by obtain ⟨n,hm,p0,p1,hS,hE⟩:=h;exact ⟨n,hm,p0,p1,hS,hE.trans e⟩) _ yk ⟨x.n,rfl,by omega,fun i hi=>co_ge xq,rfl,(Ext.refl _)⟩ ?_))))))))))
 rintro bR _ bL ⟨n,cg,hn,hz,rfl,aa⟩
 refine zzd (sq9 (zza 9 (zI n) (zza 10 (zB (decide ((0:Int)<(n:Int)))) ?_)))
 rcases Bool.eq_false_or_eq_true (decide ((0:Int)<(n:Int))) with hs12 | hs12
 ·refine qbi 11 hs12 ?_
  have qhs12:=qyt hs12
  refine zza 12 (.v (x.v)) ?_ (hw:=w1 2 true 11)
  refine zza 13 (zI n) ?_ (hw:=w1 2 true 11)
  refine qwi 14 ((n:Int) - 1) (n - 1:Nat) xz ?_ (hw:=w1 2 true 11)
  have hl13:=(hx.ext aa).len
  obtain ⟨cz,b13,bT,a0,a9,bu⟩:=pol_at (hx.ext aa) (i:=n - 1) xq
  refine zya 15 (bT+(n - 1)*3) (n:=x.n) (off:=bT) (sz:=3) (i:=((n - 1:Nat):Int)) xq a0 xq xq sl37 ?_ (hw:=w1 2 true 11)
  refine zym 16 cz.cs a9 ty28 ?_ (hw:=w1 2 true 11)
  refine zzg 17 38 _ (fun _ _ ab cw=>qym (k_rqSign cw (bu.ext ab) xq) ?_) (hw:=w1 2 true 11)
  rintro _ bD ai rfl
  refine zza 18 (zB ((sgQ (l.getD (n - 1) 0))==0)) ?_ (hw:=w1 2 true 11)
  refine zza 19 (zB ((sgQ (l.getD (n - 1) 0))==0)) (zzb (zzu (b:=(sgQ (l.getD (n - 1) 0))==0) xj (fun ad=>?_) (fun ad=>?_)))
  ·refine zzs (zzp ?_)
   refine zzt (zzf (zza 20 (zI n) (qwi 21 ((n:Int) - 1) (n - 1:Nat) xz (zza 3 (zI (n - 1:Nat)) (zzx ?_)))))
   refine ⟨_,?_,_,by exact zzv _ _ _,n - 1,rfl,by omega,(fun i hi=>by by_cases e:i=n - 1;(rw[e];have h9:=ad;rw[sgQ_eq] at h9;exact qyt h9);exact hz i xq),rfl,(aa.t (ab.t ai.ext))⟩
   omega
  refine zyc (zzp (zzd ?_))
  have he9:=trim_len_of (l:=l) hn hz (fun _ h=>by have h9:=ad;rw[sgQ_eq] at h9;exact qyf h9 h)
  clear hz
  refine zzf (zza 4 (.v (qyn)) (zzb (zzd (sq9 (zza 22 (.v (x.v)) (zza 23 (zI n) ?_))))))
  have hl19:=(hx.ext (aa.t (ab.t ai.ext))).len
  have hc19:=(hx.ext (aa.t (ab.t ai.ext))).cap
  refine sy_front 24 (n:=x.n) (c:=x.c) n sl37 rfl xq ?_
  refine zza 25 (zI n) (zza 26 (zI 0) (zzb (zzt (zyn (I:=fun a6 S' u'=>(a6=n∧S'=St.of 37 [(4,.v (qyn)),(24,.v (.slice x.a n x.c)),(25,zI n),(26,zI 0)] []∧Ext bD u')∨(∃ (i:Nat) (L:List RL) (cs:List Value) (cp:Nat),a6=n - i∧i≤n∧0<i∧L.length=i∧cs.length=cp*3∧i≤cp∧cp≤maxLen∧cs.take (i*3)=rcs L∧S'=St.of 37 [(4,.slc 34 0 i cp),(24,.v (.slice x.a n x.c)),(25,zI n),(26,zI i)] [(34,⟨28,cs⟩)]∧Ext bD u'∧RatsN u' L ((trimQ l).take i) K)) (fun m S u1 u2 e h=>by rcases h with ⟨a,b,c⟩ | ⟨a1,a2,a3,a4,b1,b2,b3,b4,b5,b6,b7,b8,b9,b10,b11⟩;exact .inl ⟨a,b,c.trans e⟩;exact .inr ⟨a1,a2,a3,a4,b1,b2,b3,b4,b5,b6,b7,b8,b9,b10.trans e,b11.ext e⟩) _ yk (.inl ⟨rfl,rfl,Ext.refl _⟩) ?_))))
  rintro a6 _ cl (⟨bc,rfl,aj⟩ | ⟨i,L,cs,cp,bc,hi,hp,hL,hc,hle,hmx,ht,rfl,aj,hR⟩)
  ·change SW _ _ _ _ (St.of 37 [(4,.v (qyn)),(24,.v (.slice x.a n x.c)),(25,.v (.int .i64 (n:Int))),(26,.v (.int .i64 0))] []) _ _
   refine sq9 (zza 27 (zB (decide ((0:Int)<(n:Int)))) (zzb (zzd (zzu (b:=decide ((0:Int)<(n:Int))) xj (fun ah=>?_) (fun ah=>?_)))))
   ·have qhb21:=qyt ah
    refine zzs (zzp ?_)
    refine zzd (zzt (sq9 ?_))
    have hl22:=((pol_take (n:=n) (hx.ext (aa.t (ab.t ai.ext))) xq).ext aj).len
    change n=_ at hl22
    obtain ⟨be,b22,bx,bb,bs,aZ⟩:=pol_at ((pol_take (n:=n) (hx.ext (aa.t (ab.t ai.ext))) xq).ext aj) (i:=0) xq
    refine zya 28 (bx+0*3) (n:=n) (off:=bx) (sz:=3) (i:=0) xq bb xq xq sl37 (zym 29 be.cs bs ty28 (zzk 6 ⟨28,zw3⟩ (zzj ⟨28,be.cs⟩ ty28 ?_)))
    refine zzb (zzf (zza 30 (.v (qyn)) (zzi 31 (.v (be.v)) ty28 zze (zzg 32 57 _ fun _ _ bX ch=>qym (k_rqTrim ch (aZ.ext bX) xq) ?_))))
    rintro _ u26 ce ⟨aq,rfl,bB⟩
    refine zxx 33 ⟨28,aq.cs⟩ 1 (fun bP cn aO bC=>?_)
    have ct:PolN cn (⟨some ⟨bP,0,none⟩,1,1⟩:Sl) [((l.take n).getD 0 0)] K:=pol_lit (L:=[aq]) bC (rats1 (bB.ext aO)) rfl yq
    refine sy_app0 34 (T:=37) (E:=28) (z:=.agg #[.bool false,qyn,qyn]) (size:=3) (bytes:=56) (b:=bP) (off:=0) (m:=1) aq.cs xj xj xj yq rfl (lit_news ((Ext.refl _).cells bC)) (rl_one aq) yq yq yq ?_
    intro bG bj cC br aJ ba
    refine zza 4 (.slc 34 0 1 bG) (zzx ?_)
    refine zzp (zzf (zza 35 (zI 1) (zza 26 (zI 1) (zzx ?_))))
    have bq:0<(trimQ l).length:=by skip;omega
    refine ⟨_,?_,_,by exact zzv _ _ _,.inr ⟨1,[aq],bj,bG,rfl,by omega,by omega,by simp,aJ,by omega,br,ba,rfl,(aj.t (bX.t (ce.t aO))),(app_first (RatN.more (K:=K) (bB.ext aO) xq) bq (by rw[qyg,List.getElem?_take_of_lt xq,← qyg];exact (trim_co l 0).symm))⟩⟩
    omega
   have qhb21:=qyf ah
   refine zyc (zzp (zzd ?_))
   have bl:PolN cl ⟨none,0,0⟩ (trimQ l) K:=by have h9:trimQ l=[]:=List.eq_nil_of_length_eq_zero (by skip;omega);rw[h9];exact pol_nil _ _
   refine zzf (zza 36 (.v (qyn)) (zza 2 (.v (qyn)) (zzb (zzo (ret0 [qyn] ⟨zzq,trivial⟩ fun u37 cr=>?_)))))
   refine ⟨⟨none,0,0⟩,rfl,?_⟩
   exact (bl.ext cr)
  change SW _ _ _ _ (St.of 37 [(4,.slc 34 0 i cp),(24,.v (.slice x.a n x.c)),(25,.v (.int .i64 (n:Int))),(26,.v (.int .i64 (i:Int)))] [(34,⟨28,cs⟩)]) _ _
  refine sq9 (zza 27 (zB (decide ((i:Int)<(n:Int)))) (zzb (zzd (zzu (b:=decide ((i:Int)<(n:Int))) xj (fun ag=>?_) (fun ag=>?_)))))
  ·have qhb39:=qyt ag
   refine zzs (zzp ?_)
   refine zzd (zzt (sq9 ?_))
   have hl40:=((pol_take (n:=n) (hx.ext (aa.t (ab.t ai.ext))) xq).ext aj).len
   change n=_ at hl40
   obtain ⟨aK,b40,bz,bf,aB,bn⟩:=pol_at ((pol_take (n:=n) (hx.ext (aa.t (ab.t ai.ext))) xq).ext aj) (i:=i) xq
   refine zya 28 (bz+i*3) (n:=n) (off:=bz) (sz:=3) (i:=(i:Int)) xq bf xq xq sl37 (zym 29 aK.cs aB ty28 (zzk 6 ⟨28,zw3⟩ (zzj ⟨28,aK.cs⟩ ty28 ?_)))
   refine zzb (zzf (zza 30 (.slc 34 0 i cp) (zzi 31 (.v (aK.v)) ty28 zze (zzg 32 57 _ fun _ _ aS cA=>qym (k_rqTrim cA (bn.ext aS) xq) ?_))))
   rintro _ u44 bU ⟨al,rfl,bJ⟩
   refine zxx 33 ⟨28,al.cs⟩ 1 (fun b0 cq ax bS=>?_)
   have cx:PolN cq (⟨some ⟨b0,0,none⟩,1,1⟩:Sl) [((l.take n).getD i 0)] K:=pol_lit (L:=[al]) bS (rats1 (bJ.ext ax)) rfl yq
   refine sy_app1 34 (T:=37) (E:=28) (z:=.agg #[.bool false,qyn,qyn]) (size:=3) (bytes:=56) (b:=b0) (off:=0) (m:=1) (n:=i) (cap:=cp) (t:=34) (cs0:=cs) [4,30,34] al.cs xj xj xj yq rfl (lit_news ((Ext.refl _).cells bS)) (rl_one al) yq yv xq xq xq xq xw ?_
   intro bH ar ca aD aL a8
   have ao:ar.take ((i+1)*3)=rcs (L++[al]):=by rw[a8,ht,rcs_app];rfl
   refine zza 4 (.slc 34 0 (i+1) bH) (zzx ?_)
   refine zzp (zzf (qwi 35 ((i:Int)+1) (i+1:Nat) xz (zza 26 (zI (i+1:Nat)) (zzx ?_))))
   have aH:i<(trimQ l).length:=by skip;omega
   refine ⟨_,?_,_,by exact zzv _ _ _,.inr ⟨i+1,L++[al],ar,bH,rfl,by omega,by omega,by simp;omega,aL,by omega,aD,ao,rfl,(aj.t (aS.t (bU.t ax))),(app_next (hR.ext (aS.t (bU.t ax))) (RatN.more (K:=K) (bJ.ext ax) xq) aH (by rw[qyg,List.getElem?_take_of_lt xq,← qyg];exact (trim_co l i).symm))⟩⟩
   omega
  have qhb39:=qyf ag
  refine zyc (zzp (zzd (zyp (r:=4) (t:=34) [4,34] xw xj zq zq xj (fun an cj ck cB bv=>?_))))
  have aG:PolN cj ⟨some ⟨an,0,none⟩,i,cp⟩ (trimQ l) K:=by have h8:=pol_data bv ht hc hle hmx (hR.ext ck);rw[List.take_of_length_le (l:=trimQ l) (by skip;omega)] at h8;exact h8
  refine zzf (zza 36 (.v (.slice (some ⟨an,0,none⟩) i cp)) (zza 2 (.v (.slice (some ⟨an,0,none⟩) i cp)) (zzb (zzo (ret0 [.slice (some ⟨an,0,none⟩) i cp] ⟨zzq,trivial⟩ fun u60 cb=>?_)))))
  refine ⟨(⟨some ⟨an,0,none⟩,i,cp⟩:Sl),rfl,?_⟩
  exact (aG.ext cb)
 refine qbi 11 hs12 ?_
 have qhs12:=qyf hs12
 refine zzn 12 (uw 2 true false 11) (zzn 13 (uw 2 true false 11) (zzn 14 (uw 2 true false 11) (zzn 15 (uw 2 true false 11) (zzn 16 (uw 2 true false 11) (zzn 17 (uw 2 true false 11) (zzn 18 (uw 2 true false 11) (zza 19 (zB false) (zzb (zys xj (zyc (zzp ?_)))))))))))
 refine zzd ?_
 have he9:=trim_len_of (l:=l) hn hz (fun h=>absurd h xq)
 clear hz
 refine zzf (zza 4 (.v (qyn)) (zzb (zzd (sq9 (zza 22 (.v (x.v)) (zza 23 (zI n) ?_))))))
 have hl62:=(hx.ext aa).len
 have hc62:=(hx.ext aa).cap
 refine sy_front 24 (n:=x.n) (c:=x.c) n sl37 rfl xq ?_
 refine zza 25 (zI n) (zza 26 (zI 0) (zzb (zzt (zyn (I:=fun bg S' u'=>(bg=n∧S'=St.of 37 [(4,.v (qyn)),(24,.v (.slice x.a n x.c)),(25,zI n),(26,zI 0)] []∧Ext bL u')∨(∃ (i:Nat) (L:List RL) (cs:List Value) (cp:Nat),bg=n - i∧i≤n∧0<i∧L.length=i∧cs.length=cp*3∧i≤cp∧cp≤maxLen∧cs.take (i*3)=rcs L∧S'=St.of 37 [(4,.slc 34 0 i cp),(24,.v (.slice x.a n x.c)),(25,zI n),(26,zI i)] [(34,⟨28,cs⟩)]∧Ext bL u'∧RatsN u' L ((trimQ l).take i) K)) (fun m S u1 u2 e h=>by rcases h with ⟨a,b,c⟩ | ⟨a1,a2,a3,a4,b1,b2,b3,b4,b5,b6,b7,b8,b9,b10,b11⟩;exact .inl ⟨a,b,c.trans e⟩;exact .inr ⟨a1,a2,a3,a4,b1,b2,b3,b4,b5,b6,b7,b8,b9,b10.trans e,b11.ext e⟩) _ yk (.inl ⟨rfl,rfl,Ext.refl _⟩) ?_))))
 rintro bg _ cu (⟨aU,rfl,ac⟩ | ⟨i,L,cs,cp,aU,hi,hp,hL,hc,hle,hmx,ht,rfl,ac,hR⟩)
 ·change SW _ _ _ _ (St.of 37 [(4,.v (qyn)),(24,.v (.slice x.a n x.c)),(25,.v (.int .i64 (n:Int))),(26,.v (.int .i64 0))] []) _ _
  refine sq9 (zza 27 (zB (decide ((0:Int)<(n:Int)))) (zzb (zzd (zzu (b:=decide ((0:Int)<(n:Int))) xj (fun ae=>?_) (fun ae=>?_)))))
  ·have qhb64:=qyt ae
   refine zzs (zzp ?_)
   refine zzd (zzt (sq9 ?_))
   have hl65:=((pol_take (n:=n) (hx.ext aa) xq).ext ac).len
   change n=_ at hl65
   obtain ⟨bh,b65,bE,aF,aA,bi⟩:=pol_at ((pol_take (n:=n) (hx.ext aa) xq).ext ac) (i:=0) xq
   refine zya 28 (bE+0*3) (n:=n) (off:=bE) (sz:=3) (i:=0) xq aF xq xq sl37 (zym 29 bh.cs aA ty28 (zzk 6 ⟨28,zw3⟩ (zzj ⟨28,bh.cs⟩ ty28 ?_)))
   refine zzb (zzf (zza 30 (.v (qyn)) (zzi 31 (.v (bh.v)) ty28 zze (zzg 32 57 _ fun _ _ bK cy=>qym (k_rqTrim cy (bi.ext bK) xq) ?_))))
   rintro _ u69 cv ⟨au,rfl,bQ⟩
   refine zxx 33 ⟨28,au.cs⟩ 1 (fun bM cc bw bY=>?_)
   have cF:PolN cc (⟨some ⟨bM,0,none⟩,1,1⟩:Sl) [((l.take n).getD 0 0)] K:=pol_lit (L:=[au]) bY (rats1 (bQ.ext bw)) rfl yq
   refine sy_app0 34 (T:=37) (E:=28) (z:=.agg #[.bool false,qyn,qyn]) (size:=3) (bytes:=56) (b:=bM) (off:=0) (m:=1) au.cs xj xj xj yq rfl (lit_news ((Ext.refl _).cells bY)) (rl_one au) yq yq yq ?_
   intro bF aY cd aV aE aC
   refine zza 4 (.slc 34 0 1 bF) (zzx ?_)
   refine zzp (zzf (zza 35 (zI 1) (zza 26 (zI 1) (zzx ?_))))
   have aQ:0<(trimQ l).length:=by skip;omega
   refine ⟨_,?_,_,by exact zzv _ _ _,.inr ⟨1,[au],aY,bF,rfl,by omega,by omega,by simp,aE,by omega,aV,aC,rfl,(ac.t (bK.t (cv.t bw))),(app_first (RatN.more (K:=K) (bQ.ext bw) xq) aQ (by rw[qyg,List.getElem?_take_of_lt xq,← qyg];exact (trim_co l 0).symm))⟩⟩
   omega
  have qhb64:=qyf ae
  refine zyc (zzp (zzd ?_))
  have bk:PolN cu ⟨none,0,0⟩ (trimQ l) K:=by have h9:trimQ l=[]:=List.eq_nil_of_length_eq_zero (by skip;omega);rw[h9];exact pol_nil _ _
  refine zzf (zza 36 (.v (qyn)) (zza 2 (.v (qyn)) (zzb (zzo (ret0 [qyn] ⟨zzq,trivial⟩ fun u80 cm=>?_)))))
  refine ⟨⟨none,0,0⟩,rfl,?_⟩
  exact (bk.ext cm)
 change SW _ _ _ _ (St.of 37 [(4,.slc 34 0 i cp),(24,.v (.slice x.a n x.c)),(25,.v (.int .i64 (n:Int))),(26,.v (.int .i64 (i:Int)))] [(34,⟨28,cs⟩)]) _ _
 refine sq9 (zza 27 (zB (decide ((i:Int)<(n:Int)))) (zzb (zzd (zzu (b:=decide ((i:Int)<(n:Int))) xj (fun af=>?_) (fun af=>?_)))))
 ·have qhb82:=qyt af
  refine zzs (zzp ?_)
  refine zzd (zzt (sq9 ?_))
  have hl83:=((pol_take (n:=n) (hx.ext aa) xq).ext ac).len
  change n=_ at hl83
  obtain ⟨aI,b83,bN,aN,aX,bo⟩:=pol_at ((pol_take (n:=n) (hx.ext aa) xq).ext ac) (i:=i) xq
  refine zya 28 (bN+i*3) (n:=n) (off:=bN) (sz:=3) (i:=(i:Int)) xq aN xq xq sl37 (zym 29 aI.cs aX ty28 (zzk 6 ⟨28,zw3⟩ (zzj ⟨28,aI.cs⟩ ty28 ?_)))
  refine zzb (zzf (zza 30 (.slc 34 0 i cp) (zzi 31 (.v (aI.v)) ty28 zze (zzg 32 57 _ fun _ _ aT cG=>qym (k_rqTrim cG (bo.ext aT) xq) ?_))))
  rintro _ u87 bO ⟨ak,rfl,bV⟩
  refine zxx 33 ⟨28,ak.cs⟩ 1 (fun bZ cE ay bA=>?_)
  have ci:PolN cE (⟨some ⟨bZ,0,none⟩,1,1⟩:Sl) [((l.take n).getD i 0)] K:=pol_lit (L:=[ak]) bA (rats1 (bV.ext ay)) rfl yq
  refine sy_app1 34 (T:=37) (E:=28) (z:=.agg #[.bool false,qyn,qyn]) (size:=3) (bytes:=56) (b:=bZ) (off:=0) (m:=1) (n:=i) (cap:=cp) (t:=34) (cs0:=cs) [4,30,34] ak.cs xj xj xj yq rfl (lit_news ((Ext.refl _).cells bA)) (rl_one ak) yq yv xq xq xq xq xw ?_
  intro bI aw cH a5 aR aM
  have av:aw.take ((i+1)*3)=rcs (L++[ak]):=by rw[aM,ht,rcs_app];rfl
  refine zza 4 (.slc 34 0 (i+1) bI) (zzx ?_)
  refine zzp (zzf (qwi 35 ((i:Int)+1) (i+1:Nat) xz (zza 26 (zI (i+1:Nat)) (zzx ?_))))
  have aP:i<(trimQ l).length:=by skip;omega
  refine ⟨_,?_,_,by exact zzv _ _ _,.inr ⟨i+1,L++[ak],aw,bI,rfl,by omega,by omega,by simp;omega,aR,by omega,a5,av,rfl,(ac.t (aT.t (bO.t ay))),(app_next (hR.ext (aT.t (bO.t ay))) (RatN.more (K:=K) (bV.ext ay) xq) aP (by rw[qyg,List.getElem?_take_of_lt xq,← qyg];exact (trim_co l i).symm))⟩⟩
  omega
 have qhb82:=qyf af
 refine zyc (zzp (zzd (zyp (r:=4) (t:=34) [4,34] xw xj zq zq xj (fun am cf a7 bW ap=>?_))))
 have aW:PolN cf ⟨some ⟨am,0,none⟩,i,cp⟩ (trimQ l) K:=by have h8:=pol_data ap ht hc hle hmx (hR.ext a7);rw[List.take_of_length_le (l:=trimQ l) (by skip;omega)] at h8;exact h8
 refine zzf (zza 36 (.v (.slice (some ⟨am,0,none⟩) i cp)) (zza 2 (.v (.slice (some ⟨am,0,none⟩) i cp)) (zzb (zzo (ret0 [.slice (some ⟨am,0,none⟩) i cp] ⟨zzq,trivial⟩ fun cD bt=>?_)))))
 refine ⟨(⟨some ⟨am,0,none⟩,i,cp⟩:Sl),rfl,?_⟩
 exact (aW.ext bt)
theorem k_poDegree {u w:World} {x:Sl} {l:List Rat} {K:Nat} (d:Dat u w) (hx:PolV u x l K) (hK:K≤100000000) (hx9:l.length≤1000000000):qyc 168 #[x.v] w (Post u w fun v u'=>v=.int .i64 (((trimQ l).length:Int) - 1)):=by
 have hlen:=hx.len
 have htl:=zzh l
 refine zzm Tryz.func168 rfl Tryz.ntmps168 Tryz.results168 d ?_
 refine sq9 (zza 2 (zI 0) (zzb (sq9 (zza 3 (.v (x.v)) (zzg 4 91 _ fun _ _ ab aa=>qym (k_cut aa (hx.ext ab) xq xk) ?_)))))
 rintro _ u12 g13 rfl
 refine zza 5 (zI (((trimQ l).length:Nat):Int)) (zyq 6 (x:=zI (IntKind.i64.wrap (((trimQ l).length:Int) - 1))) (zI (((trimQ l).length:Int) - 1)) yw (zza 2 (zI (((trimQ l).length:Int) - 1)) (zzb (zzo (ret0 [.int .i64 (((trimQ l).length:Int) - 1)] ⟨zzq,trivial⟩ fun u15 e16=>?_)))))
 rfl
theorem k_sameList {u w:World} {x:Sl} {l:List Rat} {y:Sl} {m:List Rat} {K M:Nat} (d:Dat u w) (hx:PolN u x l K) (hy:PolN u y m M) (hx9:l.length≤1000000000) (hy9:m.length≤1000000000):qyc 116 #[x.v,y.v] w (Post u w fun v u'=>v=.bool (decide (l=m))):=by
 have hlen:=hx.len
 have hlen2:=hy.len
 refine zzm Tryz.func116 rfl Tryz.ntmps116 Tryz.results116 d ?_
 refine sq9 (zza 4 (zB false) (zzb (zzd (sq9 (zza 6 (.v (x.v)) (zza 7 (zI x.n) (zza 8 (.v (y.v)) (zza 9 (zI y.n) (zza 10 (zB ((x.n:Int) != (y.n:Int))) (zzb (zzu (b:=(x.n:Int) != (y.n:Int)) xj (fun ac=>?_) (fun ac=>?_))))))))))))
 ·refine sq9 (zza 4 (zB false) (zzb (zzo (zzw (ret0 [.bool false] ⟨zzq,trivial⟩ fun u12 e13=>?_)))))
  have e9:l≠m:=by intro e;have h9:=congrArg List.length e;have h8:=ac;simp at h8;omega
  show Value.bool false=Value.bool _
  rw[decide_eq_false e9]
 have hnn:x.n=y.n:=by have h9:(x.n:Int)=(y.n:Int):=(by simpa using ac);omega
 refine zzs (zzp ?_)
 refine zzd (sq9 (zza 5 (zI 0) (zzb (zzt (zyn (I:=fun al S' u'=>∃ (i:Nat),(al=x.n - i)∧(i≤x.n)∧(∀j,j<i→l.getD j 0=m.getD j 0)∧(S'=St.of 27 [(0,.v (x.v)),(1,.v (y.v)),(5,zI i)] [])∧(Ext u u')) (fun m S u1 u2 e h=>by obtain ⟨i,hm,p0,p1,hS,hE⟩:=h;exact ⟨i,hm,p0,p1,hS,hE.trans e⟩) _ yk ⟨0,rfl,by omega,fun j hj=>by omega,rfl,(Ext.refl _)⟩ ?_)))))
 rintro al _ u14 ⟨i,ar,hi,hz,rfl,ad⟩
 refine zzd (sq9 (zza 11 (zI i) (zza 12 (.v (x.v)) (zza 13 (zI x.n) (zza 14 (zB (decide ((i:Int)<(x.n:Int)))) (zzb (zzu (b:=decide ((i:Int)<(x.n:Int))) xj (fun ab=>?_) (fun ab=>?_))))))))
 ·have qhb15:=qyt ab
  refine zzs (zzp ?_)
  refine zzd (zzt (zzd (zzz [0,0,3,7,0,0,48,112,255,511] [(0,[]),(1,[]),(2,[]),(3,[]),(4,[]),(5,[]),(6,[]),(7,[]),(8,[]),(9,[])] xj xj (zza 17 (.v (x.v)) (zza 18 (zI i) ?_)))))
  have hl16:=(hx.ext ad).len
  obtain ⟨au,b16,an,af,ai,ah⟩:=pol_atN (hx.ext ad) (i:=i) xq
  refine zya 19 (an+i*3) (n:=x.n) (off:=an) (sz:=3) (i:=(i:Int)) xq af xq xq sl36 (zym 20 au.cs ai ty28 (zza 21 (.v (y.v)) (zza 22 (zI i) ?_)))
  have hl17:=(hy.ext ad).len
  obtain ⟨aq,b17,am,ag,ak,ae⟩:=pol_atN (hy.ext ad) (i:=i) xq
  refine zya 23 (am+i*3) (n:=y.n) (off:=am) (sz:=3) (i:=(i:Int)) xq ag xq xq sl36 (zym 24 aq.cs ak ty28 (zzg 25 165 _ fun _ _ aj ao=>qym (k_rqSame ao (ah.ext aj) (ae.ext aj)) ?_))
  rintro _ u19 ap rfl
  refine zza 26 (zB (!(decide ((l.getD i 0)=(m.getD i 0))))) (zzb (zzu (b := !(decide ((l.getD i 0)=(m.getD i 0)))) xj (fun aa=>?_) (fun aa=>?_)))
  ·refine sq9 (zza 4 (zB false) (zzb (zzo (zyu (zzw (zyt (zyu (zzw (ret0 [.bool false] ⟨zzq,trivial⟩ fun u23 e24=>?_)))))))))
   have e9:l≠m:=by intro e;have h9:=aa;rw[e] at h9;simp at h9
   show Value.bool false=Value.bool _
   rw[decide_eq_false e9]
  refine zzs (zzp ?_)
  refine zzf (zza 15 (zI i) (qwi 16 ((i:Int)+1) (i+1:Nat) xz (zza 5 (zI (i+1:Nat)) (zzx ?_))))
  refine ⟨_,?_,_,by exact zzv _ _ _,i+1,rfl,by omega,(fun j hj=>by by_cases e:j=i;(rw[e];have h9:=aa;simpa using h9);exact hz j xq),rfl,(ad.t (aj.t ap.ext))⟩
  omega
 have qhb15:=qyf ab
 refine zyc (zzp (sq9 (zza 4 (zB true) (zzb (zzo (ret0 [.bool true] ⟨zzq,trivial⟩ fun u25 e26=>?_))))))
 have e9:l=m:=list_ext xq (fun j=>by by_cases hj:j<i;exact hz j hj;rw[co_ge xq,co_ge xq])
 show Value.bool true=Value.bool _
 rw[decide_eq_true e9]
theorem k_r5Equal {u w:World} {x:Sl} {l:List Rat} {y:Sl} {m:List Rat} {K M:Nat} (d:Dat u w) (hx:PolN u x l K) (hy:PolN u y m M) (hx9:l.length≤1000000000) (hy9:m.length≤1000000000):qyc 51 #[x.v,y.v] w (Post u w fun v u'=>v=.bool (decide (l=m))):=by
 have hlen:=hx.len
 have hlen2:=hy.len
 refine zzm Tryz.func51 rfl Tryz.ntmps51 Tryz.results51 d ?_
 refine sq9 (zza 4 (zB false) (zzb (sq9 (zza 5 (.v (x.v)) (zza 6 (.v (y.v)) (zzg 7 116 _ fun _ _ aa ab=>qym (k_sameList ab (hx.ext aa) (hy.ext aa) xk xk) ?_))))))
 rintro _ u12 g13 rfl
 refine zza 4 (zB (decide (l=m))) (zzb (zzo (ret0 [.bool (decide (l=m))] ⟨zzq,trivial⟩ fun u15 e16=>?_)))
 rfl
namespace Nt
namespace Pol
theorem npow_zero (p:Pol):npow p 0=1:=rfl
theorem npow_succ (p:Pol) (n:Nat):npow p (n+1)=npow p n*p:=rfl
theorem npow_len (p:Pol) (n:Nat):(npow p n).len≤n*p.len+1:=by
 induction n with
 | zero=>rw[npow_zero,show (1:Pol).len=1 from len_C (a:=1) yq];omega
 | succ n ih =>
  rw[npow_succ]
  by_cases h0:npow p n=0
  ·rw[h0,zero_mul,len_zero];omega
  by_cases h1:p=0
  ·rw[h1,mul_zero,len_zero];omega
  have h2:=len_mul h0 h1
  rw[Nat.add_mul];omega
end Pol
section
variable {l m:List Rat} {D E A B n:Nat}
theorem Sm.npow (h:Sm l D A) (n:Nat):Sm (Pol.npow (Pol.mk' l) n).l (D^n) (n*(A+l.length)):=by
 induction n with
 | zero =>
  rw[Pol.npow_zero,Nat.pow_zero,Nat.zero_mul]
  exact (show Sm (List.map (fun z:Int=>(z:Rat)) [1]) 1 0 from Sm.ofInts yq).trim
 | succ n ih =>
  rw[Pol.npow_succ,Nat.pow_succ,Nat.add_mul,Nat.one_mul]
  have h9:=(ih.mulR (h.trim:Sm (Pol.mk' l).l D A)).trim.more (B:=n*(A+l.length)+(A+l.length)) (by have h8:=zzh l;change _+A+(trimQ l).length≤_;omega)
  exact h9
theorem pow_le (hD:D≤2^A) (n k:Nat) (hk:A≤k):D^n≤2^(n*k):=by
 rw[Nat.mul_comm,Nat.pow_mul]
 exact Nat.pow_le_pow_left (Nat.le_trans hD (Nat.pow_le_pow_right xq hk)) n
theorem pow_leN {j:Nat} (hD:D≤2^A) (hj:j≤n):D^j≤2^(n*(A+8)):=Nat.le_trans (pow_le hD j (A+8) xq) (Nat.pow_le_pow_right xq (Nat.mul_le_mul_right _ hj))
theorem npow_l (l:List Rat) (j:Nat):(Pol.npow (Pol.mk' l) (j+1)).l=trimQ (mulQ (Pol.npow (Pol.mk' l) j).l l):=trim_ext fun k=>zwh (fun _=>rfl) (trim_co l) k
theorem len_of_co {a:Nat} (h:∀i,a≤i→Nt.co l i=0):(trimQ l).length≤a:=Pol.len_le (p:=Pol.mk' l) fun i hi=>by rw[Pol.mk_c];exact h i hi
theorem zxt {a b:Nat} (h1:l.length≤a) (h2:m.length≤b):(trimQ (mulQ l m)).length≤a+b - 1:=len_of_co fun i hi=>mulQ_far xq
theorem add_lenQ {a b:Nat} (h1:l.length≤a) (h2:m.length≤b):(trimQ (addQ l m)).length≤max a b:=Nat.le_trans (zzh _) (by rw[addQ_len];omega)
theorem map_lenQ {a:Nat} {f:Rat→Rat} (h1:l.length≤a):(trimQ (l.map f)).length≤a:=Nat.le_trans (zzh _) (by rw[List.length_map];omega)
end
end Nt
end Go.Proofs.YtedobdigeeflcaaGreat
namespace Go.Proofs.YtedobdigeeflcaaGreat.Nt
open Go.RowKit
open Pol
section
variable {P q ps qs l m p:List Rat} {A B D E F a b K:Nat} {c x y:Rat}
theorem out_trim (hl:0<l.length) (hm:0<m.length):trimQ (outQ l m (l.length+m.length - 1) l.length)=trimQ (mulQ l m):=by
 apply trim_ext
 intro k
 rw[outQ_co xq hm qyl,List.take_length]
end
end Go.Proofs.YtedobdigeeflcaaGreat.Nt
namespace Go.Proofs.YtedobdigeeflcaaGreat
open Nt
open Go.RowKit
theorem k_r5Scale {u w:World} {x:Sl} {l:List Rat} {r:RL} {q:Rat} {K M:Nat} (d:Dat u w) (hx:PolV u x l K) (hr:RatV u r q M) (hK:K≤20000000) (hx9:l.length≤1000000000) (hM:M≤20000000):qyc 39 #[x.v,r.v] w (Post u w fun v u'=>∃y:Sl,v=y.v∧PolN u' y (trimQ (l.map (· * q))) (K+M+1)):=by
 have hlen:=hx.len
 refine zzm Tryz.func39 rfl Tryz.ntmps39 Tryz.results39 d ?_
 refine sq9 (zzk 3 ⟨28,r.cs⟩ (zza 4 (.v (qyn)) (zzb (sq9 (zza 5 (.v (qyn)) (zzb (zzd (sq9 (zza 8 (.v (x.v)) (zza 9 (zI x.n) (zza 10 (zI 0) ?_)))))))))))
 refine zzb (zzt (zyn (I:=fun ay S' u'=>(ay=x.n∧S'=St.of 23 [(3,.adr 3 0),(5,.v (qyn)),(8,.v (x.v)),(9,zI x.n),(10,zI 0)] [(3,⟨28,r.cs⟩)]∧Ext u u')∨(∃ (i:Nat) (L:List RL) (cs:List Value) (cp:Nat),ay=x.n - i∧i≤x.n∧0<i∧L.length=i∧cs.length=cp*3∧i≤cp∧cp≤maxLen∧cs.take (i*3)=rcs L∧S'=St.of 23 [(3,.adr 3 0),(5,.slc 19 0 i cp),(8,.v (x.v)),(9,zI x.n),(10,zI i)] [(3,⟨28,r.cs⟩),(19,⟨28,cs⟩)]∧Ext u u'∧RatsN u' L ((l.map (· * q)).take i) (K+M+1))) (fun m S u1 u2 e h=>by rcases h with ⟨a,b,c⟩ | ⟨a1,a2,a3,a4,b1,b2,b3,b4,b5,b6,b7,b8,b9,b10,b11⟩;exact .inl ⟨a,b,c.trans e⟩;exact .inr ⟨a1,a2,a3,a4,b1,b2,b3,b4,b5,b6,b7,b8,b9,b10.trans e,b11.ext e⟩) _ yk (.inl ⟨rfl,rfl,Ext.refl _⟩) ?_))
 rintro ay _ be (⟨am,rfl,aa⟩ | ⟨i,L,cs,cp,am,hi,hp,hL,hc,hle,hmx,ht,rfl,aa,hR⟩)
 ·change SW _ _ _ _ (St.of 23 [(3,.adr 3 0),(5,.v (qyn)),(8,.v (.slice x.a x.n x.c)),(9,.v (.int .i64 (x.n:Int))),(10,.v (.int .i64 0))] [(3,⟨28,r.cs⟩)]) _ _
  refine sq9 (zza 11 (zB (decide ((0:Int)<(x.n:Int)))) (zzb (zzd (zzu (b:=decide ((0:Int)<(x.n:Int))) xj (fun ab=>?_) (fun ab=>?_)))))
  ·have qhb12:=qyt ab
   refine zzs (zzp ?_)
   refine zzd (zzt (sq9 ?_))
   have hl13:=(hx.ext aa).len
   obtain ⟨aJ,b13,aW,ax,aA,aK⟩:=pol_at (hx.ext aa) (i:=0) xq
   refine zya 12 (aW+0*3) (n:=x.n) (off:=aW) (sz:=3) (i:=0) xq ax xq xq sl37 (zym 13 aJ.cs aA ty28 (zzk 7 ⟨28,zw3⟩ (zzj ⟨28,aJ.cs⟩ ty28 ?_)))
   refine zzb (zzf (zza 14 (.v (qyn)) (zzi 15 (.v (aJ.v)) ty28 zze (zzi 16 (.v (r.v)) ty28 zze (zzg 17 15 _ fun _ _ ao bi=>qym (k_rqMul bi (aK.ext ao) (hr.ext (aa.trans ao)) xq xq) ?_)))))
   rintro _ u17 bo ⟨ae,rfl,aT⟩
   refine zxx 18 ⟨28,ae.cs⟩ 1 (fun aQ a7 aq aS=>?_)
   have bj:PolN a7 (⟨some ⟨aQ,0,none⟩,1,1⟩:Sl) [((l.getD 0 0)*q)] (K+M+1):=pol_lit (L:=[ae]) aS (rats1 (aT.ext aq)) rfl yq
   refine sy_app0 19 (T:=37) (E:=28) (z:=.agg #[.bool false,qyn,qyn]) (size:=3) (bytes:=56) (b:=aQ) (off:=0) (m:=1) ae.cs xj xj xj yq rfl (lit_news ((Ext.refl _).cells aS)) (rl_one ae) yq yq yq ?_
   intro aO aF a8 ap aI aw
   refine zza 5 (.slc 19 0 1 aO) (zzx ?_)
   refine zzp (zzf (zza 20 (zI 1) (zza 10 (zI 1) (zzx ?_))))
   have al:0<(l.map (· * q)).length:=by rw[List.length_map];omega
   refine ⟨_,?_,_,by exact zzv _ _ _,.inr ⟨1,[ae],aF,aO,rfl,by omega,by omega,by simp,aI,by omega,ap,aw,rfl,(aa.t (ao.t (bo.t aq))),(app_first (RatN.more (K:=(K+M+1)) (aT.ext aq) xq) al (by simp[List.getElem?_eq_getElem (show 0<l.length by omega)]))⟩⟩
   omega
  have qhb12:=qyf ab
  refine zyc (zzp (zzd ?_))
  have aH:PolN be ⟨none,0,0⟩ (l.map (· * q)) (K+M+1):=by have h9:l.map (· * q)=[]:=List.eq_nil_of_length_eq_zero (by rw[List.length_map];omega);rw[h9];exact pol_nil _ _
  refine zzf (zza 21 (.v (qyn)) (zzg 22 52 _ fun _ _ bl bk=>qym (k_r5Trim bk (aH.ext bl).raw xq xk) ?_))
  rintro _ u31 g32 ⟨an,rfl,aX⟩
  have hly29:=aX.len
  refine zza 4 (.v (an.v)) (zzb (zzo (ret0 [an.v] ⟨zzq,trivial⟩ fun u34 a0=>?_)))
  refine ⟨an,rfl,?_⟩
  exact (aX.ext a0)
 change SW _ _ _ _ (St.of 23 [(3,.adr 3 0),(5,.slc 19 0 i cp),(8,.v (.slice x.a x.n x.c)),(9,.v (.int .i64 (x.n:Int))),(10,.v (.int .i64 (i:Int)))] [(3,⟨28,r.cs⟩),(19,⟨28,cs⟩)]) _ _
 refine sq9 (zza 11 (zB (decide ((i:Int)<(x.n:Int)))) (zzb (zzd (zzu (b:=decide ((i:Int)<(x.n:Int))) xj (fun ac=>?_) (fun ac=>?_)))))
 ·have qhb36:=qyt ac
  refine zzs (zzp ?_)
  refine zzd (zzt (sq9 ?_))
  have hl37:=(hx.ext aa).len
  obtain ⟨ar,b37,aM,aD,aC,aj⟩:=pol_at (hx.ext aa) (i:=i) xq
  refine zya 12 (aM+i*3) (n:=x.n) (off:=aM) (sz:=3) (i:=(i:Int)) xq aD xq xq sl37 (zym 13 ar.cs aC ty28 (zzk 7 ⟨28,zw3⟩ (zzj ⟨28,ar.cs⟩ ty28 ?_)))
  refine zzb (zzf (zza 14 (.slc 19 0 i cp) (zzi 15 (.v (ar.v)) ty28 zze (zzi 16 (.v (r.v)) ty28 zze (zzg 17 15 _ fun _ _ ah bh=>qym (k_rqMul bh (aj.ext ah) (hr.ext (aa.trans ah)) xq xq) ?_)))))
  rintro _ u41 aR ⟨ad,rfl,aP⟩
  refine zxx 18 ⟨28,ad.cs⟩ 1 (fun aU bb ai aY=>?_)
  have bf:PolN bb (⟨some ⟨aU,0,none⟩,1,1⟩:Sl) [((l.getD i 0)*q)] (K+M+1):=pol_lit (L:=[ad]) aY (rats1 (aP.ext ai)) rfl yq
  refine sy_app1 19 (T:=37) (E:=28) (z:=.agg #[.bool false,qyn,qyn]) (size:=3) (bytes:=56) (b:=aU) (off:=0) (m:=1) (n:=i) (cap:=cp) (t:=19) (cs0:=cs) [5,14,19] ad.cs xj xj xj yq rfl (lit_news ((Ext.refl _).cells aY)) (rl_one ad) yq yv xq xq xq xq xw ?_
  intro aN ag a6 aL aG ak
  have af:ag.take ((i+1)*3)=rcs (L++[ad]):=by rw[ak,ht,rcs_app];rfl
  refine zza 5 (.slc 19 0 (i+1) aN) (zzx ?_)
  refine zzp (zzf (qwi 20 ((i:Int)+1) (i+1:Nat) xz (zza 10 (zI (i+1:Nat)) (zzx ?_))))
  have av:i<(l.map (· * q)).length:=by rw[List.length_map];omega
  refine ⟨_,?_,_,by exact zzv _ _ _,.inr ⟨i+1,L++[ad],ag,aN,rfl,by omega,by omega,by simp;omega,aG,by omega,aL,af,rfl,(aa.t (ah.t (aR.t ai))),(app_next (hR.ext (ah.t (aR.t ai))) (RatN.more (K:=(K+M+1)) (aP.ext ai) xq) av (by simp[List.getElem?_eq_getElem (show i<l.length by omega)]))⟩⟩
  omega
 have qhb36:=qyf ac
 refine zyc (zzp (zzd (zyp (r:=5) (t:=19) [5,19] xw xj zq zq xj (fun aZ a9 a5 bn au=>?_))))
 have aB:PolN a9 ⟨some ⟨aZ,0,none⟩,i,cp⟩ (l.map (· * q)) (K+M+1):=by have h8:=pol_data au ht hc hle hmx (hR.ext a5);rw[List.take_of_length_le (l:=l.map (· * q)) (by rw[List.length_map];omega)] at h8;exact h8
 refine zzf (zza 21 (.v (.slice (some ⟨aZ,0,none⟩) i cp)) (zzg 22 52 _ fun _ _ ba bc=>qym (k_r5Trim bc (aB.ext ba).raw xq xk) ?_))
 rintro _ u60 g61 ⟨aE,rfl,aV⟩
 have hly58:=aV.len
 refine zza 4 (.v (aE.v)) (zzb (zzo (ret0 [aE.v] ⟨zzq,trivial⟩ fun u63 bg=>?_)))
 refine ⟨aE,rfl,?_⟩
 exact (aV.ext bg)
theorem k_r5Mul {u w:World} {x:Sl} {l:List Rat} {y:Sl} {m:List Rat} {K M:Nat} (d:Dat u w) (hx:PolV u x l K) (hy:PolV u y m M) (hB:Nt.kk (K+M+3) (l.length*m.length)≤20000000) (hK1:K≤10000000) (hM1:M≤10000000) (hx9:l.length≤100000000) (hy9:m.length≤100000000):qyc 42 #[x.v,y.v] w (Post u w fun v u'=>∃y:Sl,v=y.v∧PolN u' y (trimQ (Nt.mulQ l m)) (Nt.kk (K+M+3) (l.length*m.length))):=by
 have hlen:=hx.len
 have hlen2:=hy.len
 have htl:=zzh l
 have htm:=zzh m
 have hB2:Nt.kk (K+M+3) ((trimQ l).length*(trimQ m).length)≤20000000:=Nat.le_trans (kk_mono qyl (Nat.mul_le_mul htl htm)) hB
 refine zzm Tryz.func42 rfl Tryz.ntmps42 Tryz.results42 d ?_
 refine sq9 (zza 4 (.v (qyn)) (zzb (sq9 (zza 8 (.v (x.v)) (zzg 9 52 _ fun _ _ aD aV=>qym (k_r5Trim aV (hx.ext aD) xq xk) ?_)))))
 rintro _ u14 aS ⟨aa,rfl,am⟩
 have hly12:=am.len
 refine zza 10 (.v (y.v)) (zzg 11 52 _ fun _ _ an aW=>qym (k_r5Trim aW (hy.ext (aD.t (aS.t an))) xq xk) ?_)
 rintro _ a2 aM ⟨ab,rfl,aC⟩
 have hly18:=aC.len
 refine zza 0 (.v (aa.v)) (zza 1 (.v (ab.v)) (zzb (zzd (sq9 (zza 12 (.v (aa.v)) (zza 13 (zI aa.n) (zza 14 (zB ((aa.n:Int)==0)) ?_)))))))
 rcases Bool.eq_false_or_eq_true ((aa.n:Int)==0) with hs23 | hs23
 ·refine qbi 15 hs23 ?_
  have ah:(aa.n:Int)=0:=by simpa using hs23
  refine zzn 16 (uw 3 false true 15) (zzn 17 (uw 3 false true 15) (zzn 18 (uw 3 false true 15) (zza 19 (zB true) (zzb (zyr xj (sq9 (zza 4 (.v (qyn)) (zzb (zzo (zzw (ret0 [qyn] ⟨zzq,trivial⟩ fun u24 e25=>?_)))))))))))
  have e9:trimQ l=[]:=List.eq_nil_of_length_eq_zero xq
  rw[mul_nil (.inl e9)]
  exact ⟨⟨none,0,0⟩,rfl,pol_nil _ _⟩
 refine qbi 15 hs23 ?_
 have ah:¬((aa.n:Int)=0):=by simpa using hs23
 refine zza 16 (.v (ab.v)) ?_ (hw:=w1 3 false 15)
 refine zza 17 (zI ab.n) ?_ (hw:=w1 3 false 15)
 refine zza 18 (zB ((ab.n:Int)==0)) ?_ (hw:=w1 3 false 15)
 refine zza 19 (zB ((ab.n:Int)==0)) (zzb (zzu (b:=(ab.n:Int)==0) xj (fun ae=>?_) (fun ae=>?_)))
 ·have ai:(ab.n:Int)=0:=by simpa using ae
  refine sq9 (zza 4 (.v (qyn)) (zzb (zzo (zzw (ret0 [qyn] ⟨zzq,trivial⟩ fun u27 e28=>?_)))))
  have e9:trimQ m=[]:=List.eq_nil_of_length_eq_zero xq
  rw[mul_nil (.inr e9)]
  exact ⟨⟨none,0,0⟩,rfl,pol_nil _ _⟩
 have ai:¬((ab.n:Int)=0):=by simpa using ae
 refine zzs (zzp ?_)
 refine sq9 (zza 20 (.v (aa.v)) (zza 21 (zI aa.n) (zza 22 (.v (ab.v)) (zza 23 (zI ab.n) (qwi 24 ((aa.n:Int)+(ab.n:Int)) (aa.n+ab.n:Nat) xz (qwi 25 (((aa.n+ab.n:Nat):Int) - 1) (((aa.n+ab.n) - 1:Nat):Int) xz (sy_make 26 (T:=37) (E:=28) (z:=.agg #[.bool false,qyn,qyn]) (size:=3) (bytes:=56) ((aa.n+ab.n) - 1) (rcs (List.replicate ((aa.n+ab.n) - 1) rl0)) xj xj rfl rfl xq yv (made_rcs _) ?_)))))))
 refine zza 5 (.slc 26 0 ((aa.n+ab.n) - 1) ((aa.n+ab.n) - 1)) (zzc 62 [(0,.v (aa.v)),(1,.v (ab.v)),(5,.slc 26 0 ((aa.n+ab.n) - 1) ((aa.n+ab.n) - 1))] [(26,⟨28,rcs (List.replicate ((aa.n+ab.n) - 1) rl0)⟩)] (zzd (sq9 (zza 27 (.v (aa.v)) (zza 28 (zI aa.n) (zza 29 (zI 0) (zzb (zzt (zyn (I:=fun aL S' u'=>∃ (i:Nat) (L:List RL),(aL=(trimQ l).length - i)∧(i≤(trimQ l).length)∧(L.length=((trimQ l).length+(trimQ m).length - 1))∧(S'=St.of 62 [(0,.v (aa.v)),(1,.v (ab.v)),(5,.slc 26 0 ((aa.n+ab.n) - 1) ((aa.n+ab.n) - 1)),(28,zI aa.n),(29,zI i)] [(26,⟨28,rcs L⟩)])∧(Ext a2 u')∧(RatsV u' L (outQ (trimQ l) (trimQ m) ((trimQ l).length+(trimQ m).length - 1) i) (Nt.kk (K+M+3) (i*(trimQ m).length)))) (fun m S u1 u2 e h=>by obtain ⟨i,L,hm,p0,p1,hS,hE,f0⟩:=h;exact ⟨i,L,hm,p0,p1,hS,hE.trans e,f0.ext e⟩) _ yk ⟨0,List.replicate ((aa.n+ab.n) - 1) rl0,rfl,by omega,by simp;omega,rfl,(Ext.refl _),(RatsV.more (K:=1) (by rw[hly12,hly18];exact RatsV.zeros _ _) (by unfold Nt.kk;omega))⟩ ?_)))))))))
 rintro aL _ aH ⟨i,L,aN,hi,hL,rfl,aj,hR⟩
 refine sq9 (zza 30 (zB (decide ((i:Int)<(aa.n:Int)))) (zzb (zzd (zzu (b:=decide ((i:Int)<(aa.n:Int))) xj (fun af=>?_) (fun af=>?_)))))
 ·have qhb30:=qyt af
  refine zzs (zzp ?_)
  refine zzd (zzt (sq9 (zza 31 (zI i) (zza 6 (zI i) (zzb (sq9 (zza 32 (.v (ab.v)) (zza 33 (zI ab.n) (zza 34 (zI 0) (zzb (zzt ?_)))))))))))
  refine zyn (I:=fun aI S' u'=>∃ (j:Nat) (M9:List RL),(aI=(trimQ m).length - j)∧(j≤(trimQ m).length)∧(M9.length=((trimQ l).length+(trimQ m).length - 1))∧(S'=St.of 62 [(0,.v (aa.v)),(1,.v (ab.v)),(5,.slc 26 0 ((aa.n+ab.n) - 1) ((aa.n+ab.n) - 1)),(6,zI i),(28,zI aa.n),(29,zI i),(33,zI ab.n),(34,zI j)] [(26,⟨28,rcs M9⟩)])∧(Ext aH u')∧(RatsV u' M9 (inn (outQ (trimQ l) (trimQ m) ((trimQ l).length+(trimQ m).length - 1) i) i ((trimQ l).getD i 0) (trimQ m) j) (Nt.kk (K+M+3) (i*(trimQ m).length+j)))) (fun m S u1 u2 e h=>by obtain ⟨j,M9,hm,p0,p1,hS,hE,f0⟩:=h;exact ⟨j,M9,hm,p0,p1,hS,hE.trans e,f0.ext e⟩) _ yk ⟨0,L,rfl,by omega,by omega,rfl,(Ext.refl _),hR⟩ ?_
  rintro aI _ u31 ⟨j,M9,a8,hj,hM9,rfl,ag,hQ⟩
  have hmm:=Nat.mul_le_mul_right (trimQ m).length (show i+1≤(trimQ l).length by omega)
  rw[Nat.add_mul] at hmm
  have hkk:=kk_mono (W:=(K+M+3)) (t:=i*(trimQ m).length+j) (t':=(trimQ l).length*(trimQ m).length) qyl xq
  have hk2:=kk_succ (K+M+3) (i*(trimQ m).length+j)
  refine sq9 (zza 35 (zB (decide ((j:Int)<(ab.n:Int)))) (zzb (zzd (zzu (b:=decide ((j:Int)<(ab.n:Int))) xj (fun ad=>?_) (fun ad=>?_)))))
  ·have qhb32:=qyt ad
   refine zzs (zzp ?_)
   refine zzd (zzt (sq9 (zza 36 (zI j) (zza 7 (zI j) (zzb (zzz [0,0,0,6,0,0,0,96,240,496,0,0,3072,7168,0,0,49152,114688,261120,524272,1048575,2097151] [(0,[]),(1,[]),(2,[]),(3,[]),(4,[]),(5,[]),(6,[]),(7,[]),(8,[]),(9,[]),(10,[]),(11,[]),(12,[]),(13,[]),(14,[]),(15,[]),(16,[]),(17,[]),(18,[]),(19,[]),(20,[]),(21,[])] xj xj (zza 37 (.slc 26 0 ((aa.n+ab.n) - 1) ((aa.n+ab.n) - 1)) (zza 38 (zI i) (zza 39 (zI j) (qwi 40 ((i:Int)+(j:Int)) (i+j:Nat) xz (zza 41 (.slc 26 0 ((aa.n+ab.n) - 1) ((aa.n+ab.n) - 1)) ?_)))))))))))
   refine zza 42 (zI i) (zza 43 (zI j) (qwi 44 ((i:Int)+(j:Int)) (i+j:Nat) xz (zyw 45 (off':=(i+j)*3) (n:=(aa.n+ab.n) - 1) (off:=0) (sz:=3) (i:=((i+j:Nat):Int)) sl37 xq xq xq ?_)))
   obtain ⟨a4,ac⟩:∃r:RL,(M9).getD (i+j) rl0=r:=⟨_,rfl⟩
   refine zzi 46 (V:=⟨28,rcs M9⟩) (off:=(i+j)*3) (.v a4.v) ty28 (by have h9:=part_rcs (L:=M9) (i:=i+j) (off:=(i+j)*3) zj rfl;rw[ac] at h9;exact h9) ?_
   have h34:=hQ.2 (i+j) zj
   rw[ac] at h34
   refine zza 47 (.v (aa.v)) (zza 48 (zI i) ?_)
   have hl35:=(am.ext (an.t (aM.t (aj.trans ag)))).len
   obtain ⟨a5,b35,aJ,ay,aB,aA⟩:=pol_atN (am.ext (an.t (aM.t (aj.trans ag)))) (i:=i) xq
   refine zya 49 (aJ+i*3) (n:=aa.n) (off:=aJ) (sz:=3) (i:=(i:Int)) xq ay xq xq sl37 (zym 50 a5.cs aB ty28 (zza 51 (.v (ab.v)) (zza 52 (zI j) ?_)))
   have hl36:=(aC.ext (aj.trans ag)).len
   obtain ⟨aR,b36,aE,ar,ap,aw⟩:=pol_atN (aC.ext (aj.trans ag)) (i:=j) xq
   refine zya 53 (aE+j*3) (n:=ab.n) (off:=aE) (sz:=3) (i:=(j:Int)) xq ar xq xq sl37 (zym 54 aR.cs ap ty28 (zzg 55 15 _ fun _ _ ak aT=>qym (k_rqMul aT (aA.ext ak).raw (aw.ext ak).raw xq xq) ?_))
   rintro _ u40 ax ⟨r38,rfl,aO⟩
   refine zzg 56 17 _ fun _ _ al aU=>qym (k_rqAdd aU (h34.ext (ak.t (ax.t al))) (aO.ext al).raw xq xq) ?_
   rintro _ u46 aF ⟨av,rfl,aP⟩
   refine zyw 57 (off':=(i+j)*3) (n:=(aa.n+ab.n) - 1) (off:=0) (sz:=3) (i:=((i+j:Nat):Int)) sl37 xq xq xq ?_
   refine zyv (V:=⟨28,rcs M9⟩) (off:=(i+j)*3) (rcs ((M9).set (i+j) av)) ty28 zk (zyx (r:=av) (i:=i+j) zj rfl) ?_
   refine zzx ?_
   refine zzp (zzf (qwi 58 ((j:Int)+1) (j+1:Nat) xz (zza 34 (zI (j+1:Nat)) (zzx ?_))))
   refine ⟨_,?_,_,by exact zzv _ _ _,j+1,(M9).set (i+j) av,rfl,by omega,by simp;omega,rfl,(ag.t (ak.t (ax.t (al.t aF.ext)))),(RatsV.set (i:=i+j) (RatsV.more (K:=Nt.kk (K+M+3) (i*(trimQ m).length+j)) (hQ.ext (ak.t (ax.t (al.t aF.ext)))) (by show _≤Nt.kk _ (i*(trimQ m).length+j+1);omega)) yy (RatV.more (K:=((Nt.kk (K+M+3) (i*(trimQ m).length+j))+(K+M+1)+2)) aP.raw (by show _≤Nt.kk _ (i*(trimQ m).length+j+1);omega)))⟩
   omega
  have qhb32:=qyf ad
  refine zyc (zzp (zzf (qwi 59 ((i:Int)+1) (i+1:Nat) xz (zza 29 (zI (i+1:Nat)) (zzx ?_)))))
  have a3:j=(trimQ m).length:=by omega
  refine ⟨_,?_,_,by exact zzv _ _ _,i+1,M9,rfl,by omega,by omega,rfl,(aj.trans ag),(by have h9:=hQ;rw[a3,← Nat.succ_mul] at h9;exact h9)⟩
  omega
 have qhb30:=qyf af
 refine zyc (zzp (zzd ?_))
 have aY:i=(trimQ l).length:=by omega
 have a1:RatsV aH L (outQ (trimQ l) (trimQ m) ((trimQ l).length+(trimQ m).length - 1) ((trimQ l).length)) (Nt.kk (K+M+3) ((trimQ l).length*(trimQ m).length)):=by have h9:=hR;rw[aY] at h9;exact h9
 have hol:(outQ (trimQ l) (trimQ m) ((trimQ l).length+(trimQ m).length - 1) ((trimQ l).length)).length=((trimQ l).length+(trimQ m).length - 1):=by simp
 refine zyp (r:=5) (t:=26) [5,26] xw xj zq zq xj (fun aG aZ a7 aX au=>?_)
 have aq:PolV aZ ⟨some ⟨aG,0,none⟩,(aa.n+ab.n) - 1,(aa.n+ab.n) - 1⟩ (outQ (trimQ l) (trimQ m) ((trimQ l).length+(trimQ m).length - 1) ((trimQ l).length)) (Nt.kk (K+M+3) ((trimQ l).length*(trimQ m).length)):=pol_data1V au yv (a1.ext a7) xq
 refine zzf (zza 60 (.v (.slice (some ⟨aG,0,none⟩) ((aa.n+ab.n) - 1) ((aa.n+ab.n) - 1))) (zzg 61 52 _ fun _ _ a6 aQ=>qym (k_r5Trim aQ (aq.ext a6) xq xk) ?_))
 rintro _ u58 g59 ⟨ao,rfl,aK⟩
 have hly56:=aK.len
 refine zza 4 (.v (ao.v)) (zzb (zzo (ret0 [ao.v] ⟨zzq,trivial⟩ fun u61 a0=>?_)))
 refine ⟨ao,rfl,PolN.more (K:=(Nt.kk (K+M+3) ((trimQ l).length*(trimQ m).length))) ?_ (kk_mono qyl (Nat.mul_le_mul htl htm))⟩
 rw[← mul_trim,← out_trim (l:=(trimQ l)) (m:=(trimQ m)) xq xq]
 exact (aK.ext a0)
end Go.Proofs.YtedobdigeeflcaaGreat

/- Parts of the proof: contracts of functions, each walked once, and plain laws. -/
import Derived.Test.YtedobdigeeflcaaGreatBwhF
set_option linter.unusedVariables false
set_option maxHeartbeats 8000000
namespace Go.Proofs.YtedobdigeeflcaaGreat
open Nt
open Go.RowKit
theorem k_ratMake {u w:World} {i j:IL} {z D:Int} {K L:Nat} (d:Dat u w) (hi:IntN u i z K) (hj:IntN u j D L) (hD:0<D) (hK:K≤1000000) (hL:L≤1000000):qyc 144 #[i.v,j.v] w (Post u w fun v u'=>∃r:RL,v=.tuple #[r.v,.int .i64 0]∧RatN u' r ((z:Rat) / (D:Rat)) (K+L+1)):=by
 refine zzm Tryz.func144 rfl Tryz.ntmps144 Tryz.results144 d ?_
 refine sq9 (zzk 2 ⟨26,i.cs⟩ (zzk 3 ⟨26,j.cs⟩ (zzk 4 ⟨28,zw3⟩ (zza 5 (zI 0) (zzb (zzd (sq9 (zzi 6 (.v (j.v)) ty26 zze (zzg 7 74 _ fun _ _ aa ag=>qym (k_intSign ag (hj.ext aa).raw) ?_)))))))))
 rintro _ u12 ac rfl
 refine zza 8 (zB ((cmpS D 0)==0)) (zzb (zzu (b:=(cmpS D 0)==0) xj (fun hb=>?_) (fun hb=>?_)))
 ·exact absurd hb (by rw[show ((cmpS D 0)==0)=false from (by rw[cmp_gt hD];rfl)];decide)
 clear hb
 refine zzs (zzp ?_)
 refine sq9 (zzi 10 (.v (i.v)) ty26 zze (zzi 11 (.v (j.v)) ty26 zze (zzg 12 77 _ fun _ _ ad ah=>qym (k_quotient (i:=i) (j:=j) ah) ?_)))
 rintro _ u16 ae rfl
 refine zzg 13 78 _ fun _ _ af ai=>qym (k_lowest ai ((quot_int (hi.ext (aa.t (ac.t (ad.t ae.ext)))) (hj.ext (aa.t (ac.t (ad.t ae.ext))))).ext af) ((int_mag (hj.ext (aa.t (ac.t (ad.t ae.ext))))).ext af).raw (show 0<(D:Int).natAbs by omega) xq xq) ?_
 rintro _ u22 g23 ⟨ab,rfl,aj⟩
 refine zzj ⟨28,ab.cs⟩ ty28 ?_
 refine zza 5 (zI 0) (zzb (zzo (ret0 [ab.v,.int .i64 0] ⟨zzr ty28 zze,zzq,trivial⟩ fun u25 ak=>?_)))
 refine ⟨ab,rfl,RatN.more (K:=(max K L)) ?_ xq⟩
 rw[← div_mk2 xq]
 exact (aj.ext ak)
theorem k_betweenN {u w:World} {i:IL} {z:Int} {k K:Nat} (d:Dat u w) (hi:IntN u i z K) (hk:k≤256) (hK0:1≤K) (hK:K≤900000):qyc 89 #[i.v,.bool false,.int .i64 (k:Int)] w (Post u w fun v u'=>∃r1 r2:RL,v=IV r1 r2∧RatN u' r1 (Nt.gr k z) (K+20)∧RatN u' r2 (Nt.gr k (z+1)) (K+20)):=by
 refine zzm Tryz.func89 rfl Tryz.ntmps89 Tryz.results89 d ?_
 refine sq9 (zzk 3 ⟨26,i.cs⟩ (zzk 6 ⟨57,zw6⟩ (zzb (sq9 (zzi 13 (.v (i.v)) ty26 zze (zzk 7 ⟨26,[.bool false,qyn]⟩ (zzj ⟨26,i.cs⟩ ty26 ?_)))))))
 refine zzb (zzd (sq9 (zza 14 (zB false) (zza 15 (zB true) (zzb (zyr xj (zzz [0,0,3,7] [(0,[]),(1,[]),(2,[]),(3,[])] xj xj (zzi 16 (.v (i.v)) ty26 zze (zzg 17 72 _ fun _ _ ag aq=>qym (k_intOf aq (z:=1) xq xq) ?_)))))))))
 rintro _ u14 ah ⟨i12,rfl,ao⟩
 refine zzg 18 79 _ fun _ _ ae au=>qym (k_intAdd au (hi.ext (ag.t (ah.t ae))).raw (ao.ext ae).raw xq xq) ?_
 rintro _ u20 aA ⟨ai,rfl,aB⟩
 refine zzj ⟨26,ai.cs⟩ ty26 ?_
 refine zzb (sq9 (zza 19 (zI k) (zzg 20 143 _ fun _ _ ak aw=>qym (k_eUnit (k:=k) aw xq) ?_)))
 rintro _ u26 al ⟨ad,rfl,aj⟩
 refine zza 21 (.v (ad.v)) (zzk 8 ⟨26,[.bool false,qyn]⟩ (zzj ⟨26,ad.cs⟩ ty26 ?_))
 refine zzb (sq9 (zzi 23 (.v (i.v)) ty26 zze (zzi 24 (.v (ad.v)) ty26 zze (zzg 25 144 _ fun _ _ ac av=>qym (k_ratMake av (hi.ext (ag.t (ah.t (ae.t (aA.t (ak.t (al.t ac))))))) (aj.ext ac) (u2_pos _) xq xq) ?_))))
 rintro _ u32 an ⟨ab,rfl,ax⟩
 refine zza 22 (.v (.tuple #[ab.v,.int .i64 0])) (zza 26 (.v (ab.v)) (zza 27 (zI 0) (zzk 9 ⟨28,zw3⟩ (zzj ⟨28,ab.cs⟩ ty28 ?_))))
 refine zza 10 (zI 0) (zzb (sq9 (zzi 29 (.v (ai.v)) ty26 zze (zzi 30 (.v (ad.v)) ty26 zze (zzg 31 144 _ fun _ _ af ar=>qym (k_ratMake ar (aB.ext (ak.t (al.t (ac.t (an.t af))))) (aj.ext (ac.t (an.t af))) (u2_pos _) xq xq) ?_)))))
 rintro _ u38 ap ⟨aa,rfl,ay⟩
 refine zza 28 (.v (.tuple #[aa.v,.int .i64 0])) (zza 32 (.v (aa.v)) (zza 33 (zI 0) (zzk 11 ⟨28,zw3⟩ (zzj ⟨28,aa.cs⟩ ty28 ?_))))
 refine zza 12 (zI 0) (zzc 37 [(6,.adr 6 0),(9,.adr 9 0),(11,.adr 11 0)] [(6,⟨57,zw6⟩),(9,⟨28,ab.cs⟩),(11,⟨28,aa.cs⟩)] (sq9 (zzi 34 (.v (ab.v)) ty28 zze (zzi 35 (.v (aa.v)) ty28 zze (zza 36 (.v (.agg #[.bool ab.s,ab.m.v,ab.d.v,.bool aa.s,aa.m.v,aa.d.v])) (zzj ⟨57,ab.cs++aa.cs⟩ ty57 ?_))))))
 refine zzb (zzo (ret0 [.agg #[.bool ab.s,ab.m.v,ab.d.v,.bool aa.s,aa.m.v,aa.d.v]] ⟨zzr ty57 zze,trivial⟩ fun u41 am=>?_))
 refine ⟨ab,aa,rfl,RatN.more (K:=(K+(k / 32+2)+1)) ?_ xq,RatN.more (K:=((max K 2+1)+(k / 32+2)+1)) ?_ xq⟩
 ·exact (ax.ext (af.t (ap.t am)))
 exact (ay.ext am)
theorem k_betweenE {u w:World} {i:IL} {z:Int} {k K:Nat} (d:Dat u w) (hi:IntN u i z K) (hk:k≤256) (hK0:1≤K) (hK:K≤900000):qyc 89 #[i.v,.bool true,.int .i64 (k:Int)] w (Post u w fun v u'=>∃r1 r2:RL,v=IV r1 r2∧RatN u' r1 (Nt.gr k z) (K+20)∧RatN u' r2 (Nt.gr k z) (K+20)):=by
 refine zzm Tryz.func89 rfl Tryz.ntmps89 Tryz.results89 d ?_
 refine sq9 (zzk 3 ⟨26,i.cs⟩ (zzk 6 ⟨57,zw6⟩ (zzb (sq9 (zzi 13 (.v (i.v)) ty26 zze (zzk 7 ⟨26,[.bool false,qyn]⟩ (zzj ⟨26,i.cs⟩ ty26 ?_)))))))
 refine zzb (zzd (sq9 (zza 14 (zB true) (zza 15 (zB false) (zzb (zys xj (zzs (zzp ?_))))))))
 refine sq9 (zza 19 (zI k) (zzg 20 143 _ fun _ _ ag ak=>qym (k_eUnit (k:=k) ak xq) ?_))
 rintro _ u14 ai ⟨ad,rfl,af⟩
 refine zza 21 (.v (ad.v)) (zzk 8 ⟨26,[.bool false,qyn]⟩ (zzj ⟨26,ad.cs⟩ ty26 ?_))
 refine zzb (sq9 (zzi 23 (.v (i.v)) ty26 zze (zzi 24 (.v (ad.v)) ty26 zze (zzg 25 144 _ fun _ _ ac al=>qym (k_ratMake al (hi.ext (ag.t (ai.t ac))) (af.ext ac) (u2_pos _) xq xq) ?_))))
 rintro _ u20 aj ⟨ab,rfl,ap⟩
 refine zza 22 (.v (.tuple #[ab.v,.int .i64 0])) (zza 26 (.v (ab.v)) (zza 27 (zI 0) (zzk 9 ⟨28,zw3⟩ (zzj ⟨28,ab.cs⟩ ty28 ?_))))
 refine zza 10 (zI 0) (zzb (sq9 (zzi 29 (.v (i.v)) ty26 zze (zzi 30 (.v (ad.v)) ty26 zze (zzg 31 144 _ fun _ _ ae ao=>qym (k_ratMake ao (hi.ext (ag.t (ai.t (ac.t (aj.t ae))))) (af.ext (ac.t (aj.t ae))) (u2_pos _) xq xq) ?_)))))
 rintro _ u26 an ⟨aa,rfl,am⟩
 refine zza 28 (.v (.tuple #[aa.v,.int .i64 0])) (zza 32 (.v (aa.v)) (zza 33 (zI 0) (zzk 11 ⟨28,zw3⟩ (zzj ⟨28,aa.cs⟩ ty28 ?_))))
 refine zza 12 (zI 0) (zzb (sq9 (zzi 34 (.v (ab.v)) ty28 zze (zzi 35 (.v (aa.v)) ty28 zze (zza 36 (.v (.agg #[.bool ab.s,ab.m.v,ab.d.v,.bool aa.s,aa.m.v,aa.d.v])) (zzj ⟨57,ab.cs++aa.cs⟩ ty57 ?_))))))
 refine zzc 37 [(6,.adr 6 0)] [(6,⟨57,ab.cs++aa.cs⟩)] (zzo (ret0 [.agg #[.bool ab.s,ab.m.v,ab.d.v,.bool aa.s,aa.m.v,aa.d.v]] ⟨zzr ty57 zze,trivial⟩ fun u29 ah=>?_))
 refine ⟨ab,aa,rfl,RatN.more (K:=(K+(k / 32+2)+1)) ?_ xq,RatN.more (K:=(K+(k / 32+2)+1)) ?_ xq⟩
 ·exact (ap.ext (ae.t (an.t ah)))
 exact (am.ext ah)
theorem k_betweenB {u w:World} {i:IL} {z:Int} {e:Bool} {k K:Nat} (d:Dat u w) (hi:IntN u i z K) (hk:k≤256) (hK0:1≤K) (hK:K≤900000):qyc 89 #[i.v,.bool e,.int .i64 (k:Int)] w (Post u w fun v u'=>∃r1 r2:RL,v=IV r1 r2∧RatN u' r1 (Nt.gr k z) (K+20)∧RatN u' r2 (Nt.gr k (if e=true then z else z+1)) (K+20)):=by
 cases e with
 | true=>exact k_betweenE d hi hk hK0 hK
 | false=>exact k_betweenN d hi hk hK0 hK
theorem k_cos1 {u w:World} {p q k bp bq:Nat} (d:Dat u w) (hbp:u.heap[bp]? = some (.cells [Value.int .i64 (p:Int)].toArray 3 (0,0))) (hbq:u.heap[bq]? = some (.cells [Value.int .i64 (q:Int)].toArray 3 (0,0))) (hq0:0<q) (hq:q≤100000) (hp:2*p≤q) (hp1:1≤p) (hk0:16≤k) (hk:k≤800):qyc 149 #[.int .i64 (k:Int),.pointer (some ⟨bp,0,none⟩),.pointer (some ⟨bq,0,none⟩)] w (Post u w fun v u'=>∃ (i j:IL) (a b:Int),v=SP i j∧IntN u' i a 42∧IntN u' j b 42∧CsR p q k a b):=by
 refine zzm Tryz.func149 rfl Tryz.ntmps149 Tryz.results149 d ?_
 refine sq9 (zzk 4 ⟨144,[.bool false,qyn,.bool false,qyn]⟩ (zzb (sq9 (zyl 5 (.int .i64 p) (var_cell1 hbp) ty3 (zyl 6 (.int .i64 q) (var_cell1 hbq) ty3 (zza 7 (zI k) (zzg 8 150 _ fun _ _ _ ag=>qym (k_cosineOf ag (p:=p) (q:=q) (k:=k) hq0 hq hp hp1 xq xq) ?_)))))))
 rintro _ u13 g14 ⟨ab,aa,ai,ah,rfl,ac,ad,ae⟩
 refine zzj ⟨144,ab.cs++aa.cs⟩ ty144 ?_
 refine zzb (zzo (ret0 [.agg #[.bool ab.s,ab.m.v,.bool aa.s,aa.m.v]] ⟨zzr ty144 zze,trivial⟩ fun u16 af=>?_))
 exact ⟨ab,aa,_,_,rfl,(ac.ext af),(ad.ext af),ae⟩
theorem k_irrCos {u w:World} {p q bp bq:Nat} {k g:Nat} (d:Dat u w) (hbp:u.heap[bp]? = some (.cells [Value.int .i64 (p:Int)].toArray 3 (0,0))) (hbq:u.heap[bq]? = some (.cells [Value.int .i64 (q:Int)].toArray 3 (0,0))) (hq0:0<q) (hq:q≤100000) (hp:2*p≤q) (hp1:1≤p) (hg:Gap (coN p q) k g) (hg3:g≤300) (hk:k≤256):qyc 148 #[.func (.func 149) #[] #[.pointer (some ⟨bp,0,none⟩),.pointer (some ⟨bq,0,none⟩)],.int .i64 (k:Int)] w (Post u w fun v u'=>∃r1 r2:RL,v=IV r1 r2∧RatN u' r1 (Nt.gr k (Nt.flo (coN p q) k)) 70∧RatN u' r2 (Nt.gr k (Nt.flo (coN p q) k+1)) 70):=by
 refine zzm Tryz.func148 rfl Tryz.ntmps148 Tryz.results148 d ?_
 refine sq9 (zzk 4 ⟨57,zw6⟩ (zzb (sw_scope (I:=fun aD S' u'=>∃ (wk:Nat),(aD=1000 - wk)∧(k+32≤wk)∧(wk≤674∨wk=k+32)∧(S'=St.of 49 [(0,.v (.func (.func 149) #[] #[.pointer (some ⟨bp,0,none⟩),.pointer (some ⟨bq,0,none⟩)])),(1,zI k),(4,.adr 4 0),(5,zI wk)] [(4,⟨57,zw6⟩)])∧(Ext u u')) (fun m S u1 u2 e h=>by obtain ⟨wk,hm,p0,p1,hS,hE⟩:=h;exact ⟨wk,hm,p0,p1,hS,hE.trans e⟩) xj ?_ ?_)))
 ·skip
  refine zzf (zza 14 (zI k) (qwi 15 ((k:Int)+32) (k+32:Nat) xz (zza 5 (zI (k+32:Nat)) (zzx ?_))))
  exact mpi_into (T:=St.of 49 [(0,.v (.func (.func 149) #[] #[.pointer (some ⟨bp,0,none⟩),.pointer (some ⟨bq,0,none⟩)])),(1,.v (.int .i64 (k:Int))),(4,.adr 4 0),(5,.v (.int .i64 ((k+32:Nat):Int)))] [(4,⟨57,zw6⟩)]) yk ⟨k+32,rfl,by omega,.inr rfl,rfl,(Ext.refl _)⟩
 rintro aD _ u11 ⟨wk,aO,hw0,hw1,rfl,aq⟩
 refine sq9 (zza 16 (.v (.func (.func 149) #[] #[.pointer (some ⟨bp,0,none⟩),.pointer (some ⟨bq,0,none⟩)])) (zza 17 (zI wk) (zzg 18 149 _ fun _ _ au aP=>qym (k_cos1 aP (k:=wk) ((aq.trans au).cells hbp) ((aq.trans au).cells hbq) hq0 hq hp hp1 xq xq) ?_)))
 rintro _ u14 aG ⟨ah,ae,ag,aj,rfl,ay,ax,aa⟩
 refine zzk 6 ⟨144,[.bool false,qyn,.bool false,qyn]⟩ (zzj ⟨144,ah.cs++ae.cs⟩ ty144 ?_)
 refine zzb (sq9 (zza 19 (zI wk) (zza 20 (zI k) (qwi 21 ((wk:Int) - (k:Int)) (wk - k:Nat) xz (zzg 22 143 _ fun _ _ ap aI=>qym (k_eUnit (k:=wk - k) aI xq) ?_)))))
 rintro _ u20 aA ⟨am,rfl,aF⟩
 refine zza 23 (.v (am.v)) (zzk 7 ⟨26,[.bool false,qyn]⟩ (zzj ⟨26,am.cs⟩ ty26 ?_))
 refine zzb (sq9 (zza 25 (.adr 6 0) (zzi 26 (.v (ah.v)) ty26 zze (zzi 27 (.v (am.v)) ty26 zze (zzg 28 180 _ fun _ _ ai aQ=>qym (k_intDivI aQ (ay.ext (ap.t (aA.t ai))).raw (aF.ext ai) (u2_pos _) xq xq) ?_)))))
 rintro _ u28 av ⟨ac,aw,rfl,aB,h27⟩
 refine zza 24 (.v (.tuple #[ac.v,aw.v,.int .i64 0])) (zza 29 (.v (ac.v)) (zza 30 (.v (aw.v)) (zza 31 (zI 0) (zzk 8 ⟨26,[.bool false,qyn]⟩ (zzk 9 ⟨26,[.bool false,qyn]⟩ (zzj ⟨26,ac.cs⟩ ty26 ?_))))))
 refine zzj ⟨26,aw.cs⟩ ty26 ?_
 refine zza 10 (zI 0) (zzb (sq9 (zza 33 (.adr 6 2) (zzi 34 (.v (ae.v)) ty26 zze (zzi 35 (.v (am.v)) ty26 zze (zzg 36 180 _ fun _ _ al aM=>qym (k_intDivI aM (ax.ext (ap.t (aA.t (ai.t (av.t al))))).raw (aF.ext (ai.t (av.t al))) (u2_pos _) xq xq) ?_))))))
 rintro _ u36 ar ⟨ak,ao,rfl,aN,h35⟩
 refine zza 32 (.v (.tuple #[ak.v,ao.v,.int .i64 0])) (zza 37 (.v (ak.v)) (zza 38 (.v (ao.v)) (zza 39 (zI 0) (zzk 11 ⟨26,[.bool false,qyn]⟩ (zzk 12 ⟨26,[.bool false,qyn]⟩ (zzj ⟨26,ak.cs⟩ ty26 ?_))))))
 refine zzj ⟨26,ao.cs⟩ ty26 ?_
 refine zza 13 (zI 0) (zzc 49 [(0,.v (.func (.func 149) #[] #[.pointer (some ⟨bp,0,none⟩),.pointer (some ⟨bq,0,none⟩)])),(1,zI k),(4,.adr 4 0),(5,zI wk),(8,.adr 8 0),(11,.adr 11 0)] [(4,⟨57,zw6⟩),(8,⟨26,ac.cs⟩),(11,⟨26,ak.cs⟩)] (zzd (sq9 (zzi 40 (.v (ac.v)) ty26 zze (zzi 41 (.v (ak.v)) ty26 zze (zzg 42 167 _ fun _ _ an aK=>qym (k_intCompare aK (aB.ext (al.t (ar.t an))).raw (aN.ext an).raw) ?_))))))
 rintro _ u40 aE rfl
 refine zza 43 (zB ((cmpS (ag / (Nt.u2 (wk - k))) (aj / (Nt.u2 (wk - k)))) != 0)) (zzb (zzu (b:=(cmpS (ag / (Nt.u2 (wk - k))) (aj / (Nt.u2 (wk - k)))) != 0) xj (fun ab=>?_) (fun ab=>?_)))
 ·refine sq9 (zza 44 (zI wk) (qwi 45 ((wk:Int)*2) (wk*2:Nat) xz (zza 5 (zI (wk*2:Nat)) (zzb ?_))))
  have hny:=not_yet hg aa.1 ((csR_bd aa hq0 hp xq).2.2.2.2.2) ab
  refine sw_goto (mpg_seq (mpg_jump (m:=_) (T:=St.of 49 [(0,.v (.func (.func 149) #[] #[.pointer (some ⟨bp,0,none⟩),.pointer (some ⟨bq,0,none⟩)])),(1,zI k),(4,.adr 4 0),(5,zI (wk*2:Nat))] [(4,⟨57,zw6⟩)]) ?_ yk ⟨wk*2,rfl,by omega,by omega,rfl,(aq.t (au.t (aG.t (ap.t (aA.t (ai.t (av.t (al.t (ar.t (an.t aE.ext))))))))))⟩))
  omega
 refine zzs (zzp ?_)
 refine sq9 (zzi 46 (.v (ac.v)) ty26 zze (zza 47 (zI k) (zzg 48 89 _ fun _ _ aJ aL=>qym (k_betweenN (k:=k) aL (aB.ext (al.t (ar.t (an.t (aE.t aJ))))) xq xq xq) ?_)))
 rintro _ u49 g50 ⟨ad,af,rfl,aR,aH⟩
 refine zzj ⟨57,ad.cs++af.cs⟩ ty57 ?_
 refine zzb (zzo (mpr_jump (ret0 [.agg #[.bool ad.s,ad.m.v,ad.d.v,.bool af.s,af.m.v,af.d.v]] ⟨zzr ty57 zze,trivial⟩ fun u52 aC=>?_)))
 have hfl:=flo_of aa.1 xq ab
 refine ⟨ad,af,rfl,RatN.more (K:=((42+1)+20)) ?_ xq,RatN.more (K:=((42+1)+20)) ?_ xq⟩
 ·rw[← hfl];exact (aR.ext aC)
 rw[← hfl];exact (aH.ext aC)
theorem k_exactly {u w:World} {r:RL} {q:Rat} {K k:Nat} (d:Dat u w) (hr:RatN u r q K) (hk:k≤256) (hK:K≤10):qyc 146 #[r.v,.int .i64 (k:Int)] w (Post u w fun v u'=>∃r1 r2:RL,v=IV r1 r2∧RatN u' r1 (dnQ q k) 80∧RatN u' r2 (-dnQ (-q) k) 80):=by
 refine zzm Tryz.func146 rfl Tryz.ntmps146 Tryz.results146 d ?_
 refine sq9 (zzk 2 ⟨28,r.cs⟩ (zzk 4 ⟨57,zw6⟩ (zzb (sq9 (zzi 8 (.v (r.v)) ty28 zze (zzi 9 (.v (r.v)) ty28 zze (zzg 10 179 _ fun _ _ ad ae=>qym (k_ivMake ae (hr.ext ad).raw (hr.ext ad).raw xq) ?_)))))))
 rintro _ u16 g17 ⟨r12,r14,rfl,ag,ah⟩
 refine zza 11 (zI k) (zzg 12 178 _ fun _ _ ac af=>qym (k_ivRoundG (k:=k) xq af (ag.ext ac).raw (ah.ext ac).raw xq) ?_)
 rintro _ u23 g24 ⟨ab,aa,rfl,aj⟩
 refine zza 7 (.v (.tuple #[.agg #[.bool ab.s,ab.m.v,ab.d.v,.bool aa.s,aa.m.v,aa.d.v],.int .i64 (rndE (k:Int))])) (zza 13 (.v (.agg #[.bool ab.s,ab.m.v,ab.d.v,.bool aa.s,aa.m.v,aa.d.v])) (zza 14 (zI (rndE (k:Int))) (zzk 5 ⟨57,zw6⟩ (zzj ⟨57,ab.cs++aa.cs⟩ ty57 ?_))))
 refine zza 6 (zI (rndE (k:Int))) (zzb (sq9 (zzi 15 (.v (.agg #[.bool ab.s,ab.m.v,ab.d.v,.bool aa.s,aa.m.v,aa.d.v])) ty57 zze (zzj ⟨57,ab.cs++aa.cs⟩ ty57 ?_))))
 refine zzb (zzo (ret0 [.agg #[.bool ab.s,ab.m.v,ab.d.v,.bool aa.s,aa.m.v,aa.d.v]] ⟨zzr ty57 zze,trivial⟩ fun u26 ai=>?_))
 have h9:=(aj.ext ai)
 rw[rnd_pt hk] at h9
 exact ⟨ab,aa,rfl,RatN.more h9.1 xq,RatN.more h9.2 xq⟩
theorem k_cosA {u w:World} {p:Int} {q k:Nat} (d:Dat u w) (hq0:0<q) (hq2:q≤10000) (hG0:GapQ q k) (hp0 : -1000000000≤p) (hp1:p≤1000000000) (hk:k≤256) (hA:2*fold p q≤q):qyc 90 #[.int .i64 p,.int .i64 (q:Int),.int .i64 (k:Int)] w (Post u w fun v u'=>∃r1 r2:RL,v=IV r1 r2∧RatN u' r1 ((cosA (fold p q) q k).1) 80∧RatN u' r2 ((cosA (fold p q) q k).2) 80):=by
 have htm:=tmod_bd p hq0
 obtain ⟨g,bq,hG⟩:=id hG0
 refine zzm Tryz.func90 rfl Tryz.ntmps90 Tryz.results90 d ?_
 refine sq9 (zzk 3 ⟨3,[.int .i64 p]⟩ (zzk 4 ⟨3,[.int .i64 q]⟩ (zzk 6 ⟨57,zw6⟩ (zzb (sq9 (zzi 8 (zI p) ty3 zzl (zzi 9 (zI q) ty3 zzl (qwi 10 ((2:Int)*(q:Int)) (2*q:Nat) xz (sy_rem 11 (m:=((2*q:Nat):Int)) (Int.tmod p (2*(q:Int))) xq (by rw[Int.natCast_mul];rfl) ?_)))))))))
 refine zzj ⟨3,[.int .i64 (Int.tmod p (2*(q:Int)))]⟩ ty3 ?_
 refine zzb (zzd (sq9 (zzi 12 (zI (Int.tmod p (2*(q:Int)))) ty3 zzl (zza 13 (zB (decide ((Int.tmod p (2*(q:Int)))<0))) (zzb (zzu (b:=decide ((Int.tmod p (2*(q:Int)))<0)) xj (fun aM=>?_) (fun aM=>?_)))))))
 ·have qhb11:=qyt aM
  refine zzf (zzi 14 (zI (Int.tmod p (2*(q:Int)))) ty3 zzl (qwi 15 (0 - (Int.tmod p (2*(q:Int)))) (-(Int.tmod p (2*(q:Int)))) xz (zzj ⟨3,[.int .i64 (-(Int.tmod p (2*(q:Int))))]⟩ ty3 ?_)))
  refine zzb (zzd (sq9 (zzi 16 (zI (-(Int.tmod p (2*(q:Int))))) ty3 zzl (zzi 17 (zI q) ty3 zzl (zza 18 (zB (decide ((q:Int)<(-(Int.tmod p (2*(q:Int))))))) (zzb (zzu (b:=decide ((q:Int)<(-(Int.tmod p (2*(q:Int)))))) xj (fun aN=>?_) (fun aN=>?_))))))))
  ·have qhb12:=qyt aN
   refine zzf (zzi 19 (zI q) ty3 zzl (qwi 20 ((2:Int)*(q:Int)) (2*q:Nat) xz (zzi 21 (zI (-(Int.tmod p (2*(q:Int))))) ty3 zzl (zyq 22 (x:=zI (IntKind.i64.wrap (((2*q:Nat):Int) - (-(Int.tmod p (2*(q:Int))))))) (zI (((2*q:Nat):Int) - (-(Int.tmod p (2*(q:Int)))))) yw (zzj ⟨3,[.int .i64 (((2*q:Nat):Int) - (-(Int.tmod p (2*(q:Int)))))]⟩ ty3 ?_)))))
   refine zzb (zzd (zzd ?_))
   have hfold:(((2*q:Nat):Int) - (-(Int.tmod p (2*(q:Int)))))=((fold p q:Nat):Int):=by unfold fold;dsimp only;split<;>omega
   rw[hfold]
   have hfl:=fold_le p q hq0
   obtain ⟨r,hr⟩:∃r,fold p q=r:=⟨_,rfl⟩
   rw[hr] at hfl ⊢
   clear hfold
   rw[hr] at hA
   refine zzf (zzi 23 (zI r) ty3 zzl (qwi 24 ((2:Int)*(r:Int)) (2*r:Nat) xz (zzi 25 (zI q) ty3 zzl (zza 26 (zB (decide ((q:Int)<((2*r:Nat):Int)))) (zzb (zzu (b:=decide ((q:Int)<((2*r:Nat):Int))) xj (fun hb=>?_) (fun hb=>?_)))))))
   ·exact absurd hb (by rw[show (decide ((q:Int)<((2*r:Nat):Int)))=false from decide_eq_false xq];decide)
   clear hb
   refine zzs (zzp ?_)
   refine zzd (zzt (sq9 (zzi 41 (zI r) ty3 zzl (zza 42 (zB ((r:Int)==0)) (zza 40 (zB ((r:Int)==0)) (zzb (zzu (b:=(r:Int)==0) xj (fun af=>?_) (fun af=>?_))))))))
   ·have bn:(r:Int)=0:=by simpa using af
    refine sq9 (zzg 43 23 _ fun _ _ _ dZ=>qym (k_ratOf dZ (z:=1) xq xq) ?_)
    rintro _ u17 g18 ⟨r15,rfl,dF⟩
    refine zza 44 (zI k) (zzg 45 146 _ fun _ _ eE d8=>qym (k_exactly (k:=k) d8 (dF.ext eE) xq xq) ?_)
    rintro _ u25 g26 ⟨aQ,aR,rfl,d5,eh⟩
    refine zzj ⟨57,aQ.cs++aR.cs⟩ ty57 ?_
    refine zzc 65 [(6,.adr 6 0)] [(6,⟨57,aQ.cs++aR.cs⟩)] (zzo (zyu (zzw (ret0 [.agg #[.bool aQ.s,aQ.m.v,aQ.d.v,.bool aR.s,aR.m.v,aR.d.v]] ⟨zzr ty57 zze,trivial⟩ fun u28 cM=>?_))))
    have hc:=cosA_0 (r:=r) (q:=q) (b:=k) (by have h9:=af;simp at h9;omega)
    refine ⟨aQ,aR,rfl,RatN.more (K:=80) ?_ xq,RatN.more (K:=80) ?_ xq⟩
    ·rw[hc];exact (d5.ext cM)
    rw[hc];exact (eh.ext cM)
   have bn:¬((r:Int)=0):=by simpa using af
   refine sq9 (zzi 47 (zI r) ty3 zzl (qwi 48 ((2:Int)*(r:Int)) (2*r:Nat) xz (zzi 49 (zI q) ty3 zzl (zza 50 (zB (((2*r:Nat):Int)==(q:Int))) (zza 46 (zB (((2*r:Nat):Int)==(q:Int))) (zzc 65 [(2,zI k),(3,.adr 3 0),(4,.adr 4 0),(6,.adr 6 0),(46,zB (((2*r:Nat):Int)==(q:Int)))] [(3,⟨3,[.int .i64 r]⟩),(4,⟨3,[.int .i64 q]⟩),(6,⟨57,zw6⟩)] (zzu (b:=((2*r:Nat):Int)==(q:Int)) xj (fun ax=>?_) (fun ax=>?_))))))))
   ·refine sq9 (zzg 51 23 _ fun _ _ _ d3=>qym (k_ratOf d3 (z:=0) xq xq) ?_)
    rintro _ u34 g35 ⟨r32,rfl,es⟩
    refine zza 52 (zI k) (zzg 53 146 _ fun _ _ dh c5=>qym (k_exactly (k:=k) c5 (es.ext dh) xq xq) ?_)
    rintro _ u42 g43 ⟨aZ,aX,rfl,dL,c2⟩
    refine zzj ⟨57,aZ.cs++aX.cs⟩ ty57 ?_
    refine zzb (zzo (zyu (zzw (ret0 [.agg #[.bool aZ.s,aZ.m.v,aZ.d.v,.bool aX.s,aX.m.v,aX.d.v]] ⟨zzr ty57 zze,trivial⟩ fun u45 cW=>?_))))
    have hc:=cosA_h (r:=r) (q:=q) (b:=k) (by have h9:=af;simp at h9;omega) (by have h9:=ax;simp at h9;omega)
    refine ⟨aZ,aX,rfl,RatN.more (K:=80) ?_ xq,RatN.more (K:=80) ?_ xq⟩
    ·rw[hc];exact (dL.ext cW)
    rw[hc];exact (c2.ext cW)
   have bS:¬2*r=q:=by have h9:=ax;simp at h9;omega
   refine sq9 (zzi 55 (zI r) ty3 zzl (qwi 56 ((3:Int)*(r:Int)) (3*r:Nat) xz (zzi 57 (zI q) ty3 zzl (zza 58 (zB (((3*r:Nat):Int)==(q:Int))) (zza 54 (zB (((3*r:Nat):Int)==(q:Int))) (zzb (zzu (b:=((3*r:Nat):Int)==(q:Int)) xj (fun aL=>?_) (fun aL=>?_))))))))
   ·refine sq9 (zzg 59 147 _ fun _ _ _ di=>qym (k_ratFrac di (a:=1) (b:=2) xq xq xq xq) ?_)
    rintro _ u51 g52 ⟨r49,rfl,ee⟩
    refine zza 60 (zI k) (zzg 61 146 _ fun _ _ dc ec=>qym (k_exactly (k:=k) ec (ee.ext dc) xq xq) ?_)
    rintro _ u59 g60 ⟨a1,bf,rfl,dq,c7⟩
    refine zzj ⟨57,a1.cs++bf.cs⟩ ty57 ?_
    refine zzb (zzo (zyu (zzw (ret0 [.agg #[.bool a1.s,a1.m.v,a1.d.v,.bool bf.s,bf.m.v,bf.d.v]] ⟨zzr ty57 zze,trivial⟩ fun u62 cJ=>?_))))
    have hc:=cosA_3 (r:=r) (q:=q) (b:=k) (by have h9:=af;simp at h9;omega) (by have h9:=ax;simp at h9;omega) (by have h9:=aL;simp at h9;omega)
    refine ⟨a1,bf,rfl,RatN.more (K:=80) ?_ xq,RatN.more (K:=80) ?_ xq⟩
    ·rw[hc];exact (dq.ext cJ)
    rw[hc];exact (c7.ext cJ)
   have bO:¬3*r=q:=by have h9:=aL;simp at h9;omega
   refine zzs (zzp ?_)
   refine zzd (sw_pubA (r:=3) (t:=3) [3] xw xj zq zq xj (fun dO u65 e66 dS dB bF=>?_))
   refine sw_pubA (r:=4) (t:=4) [4] xw xj zq zq xj (fun c0 u71 dR du er bZ=>?_)
   refine zzf (sy_fun 62 [.pointer (some ⟨dO,0,none⟩),.pointer (some ⟨c0,0,none⟩)] ?_)
   refine zza 63 (zI k) (zzg 64 148 _ fun _ _ cR ek=>qym (k_irrCos (k:=k) ek ((dR.trans cR).cells bF) (cR.cells bZ) hq0 xq xq xq (hG r xq xq xq) bq xq) ?_)
   rintro _ u81 g82 ⟨a0,bh,rfl,el,d4⟩
   refine zzj ⟨57,a0.cs++bh.cs⟩ ty57 ?_
   refine zzb (zzo (ret0 [.agg #[.bool a0.s,a0.m.v,a0.d.v,.bool bh.s,bh.m.v,bh.d.v]] ⟨zzr ty57 zze,trivial⟩ fun u84 cL=>?_))
   have hc:=cosA_g (r:=r) (q:=q) (b:=k) (by have h9:=af;simp at h9;omega) (by have h9:=ax;simp at h9;omega) (by have h9:=aL;simp at h9;omega)
   refine ⟨a0,bh,rfl,RatN.more (K:=70) ?_ xq,RatN.more (K:=70) ?_ xq⟩
   ·rw[hc];exact (el.ext cL)
   rw[hc];exact (d4.ext cL)
  have qhb12:=qyf aN
  refine zzs (zzp ?_)
  refine zzd (zzd ?_)
  have hfold:(-(Int.tmod p (2*(q:Int))))=((fold p q:Nat):Int):=by unfold fold;dsimp only;split<;>omega
  rw[hfold]
  have hfl:=fold_le p q hq0
  obtain ⟨r,hr⟩:∃r,fold p q=r:=⟨_,rfl⟩
  rw[hr] at hfl ⊢
  clear hfold
  rw[hr] at hA
  refine zzf (zzi 23 (zI r) ty3 zzl (qwi 24 ((2:Int)*(r:Int)) (2*r:Nat) xz (zzi 25 (zI q) ty3 zzl (zza 26 (zB (decide ((q:Int)<((2*r:Nat):Int)))) (zzb (zzu (b:=decide ((q:Int)<((2*r:Nat):Int))) xj (fun hb=>?_) (fun hb=>?_)))))))
  ·exact absurd hb (by rw[show (decide ((q:Int)<((2*r:Nat):Int)))=false from decide_eq_false xq];decide)
  clear hb
  refine zzs (zzp ?_)
  refine zzd (zzt (sq9 (zzi 41 (zI r) ty3 zzl (zza 42 (zB ((r:Int)==0)) (zza 40 (zB ((r:Int)==0)) (zzb (zzu (b:=(r:Int)==0) xj (fun ag=>?_) (fun ag=>?_))))))))
  ·have a4:(r:Int)=0:=by simpa using ag
   refine sq9 (zzg 43 23 _ fun _ _ _ dG=>qym (k_ratOf dG (z:=1) xq xq) ?_)
   rintro _ u90 g91 ⟨r88,rfl,ds⟩
   refine zza 44 (zI k) (zzg 45 146 _ fun _ _ cZ c3=>qym (k_exactly (k:=k) c3 (ds.ext cZ) xq xq) ?_)
   rintro _ u98 g99 ⟨a8,bj,rfl,eA,d7⟩
   refine zzj ⟨57,a8.cs++bj.cs⟩ ty57 ?_
   refine zzb (zzo (zyu (zzw (ret0 [.agg #[.bool a8.s,a8.m.v,a8.d.v,.bool bj.s,bj.m.v,bj.d.v]] ⟨zzr ty57 zze,trivial⟩ fun eF aT=>?_))))
   have hc:=cosA_0 (r:=r) (q:=q) (b:=k) (by have h9:=ag;simp at h9;omega)
   refine ⟨a8,bj,rfl,RatN.more (K:=80) ?_ xq,RatN.more (K:=80) ?_ xq⟩
   ·rw[hc];exact (eA.ext aT)
   rw[hc];exact (d7.ext aT)
  have a4:¬((r:Int)=0):=by simpa using ag
  refine sq9 (zzi 47 (zI r) ty3 zzl (qwi 48 ((2:Int)*(r:Int)) (2*r:Nat) xz (zzi 49 (zI q) ty3 zzl (zza 50 (zB (((2*r:Nat):Int)==(q:Int))) (zza 46 (zB (((2*r:Nat):Int)==(q:Int))) (zzb (zzu (b:=((2*r:Nat):Int)==(q:Int)) xj (fun ad=>?_) (fun ad=>?_))))))))
  ·refine sq9 (zzg 51 23 _ fun _ _ _ b1=>qym (k_ratOf b1 (z:=0) xq xq) ?_)
   rintro _ db ey ⟨d2,rfl,ce⟩
   refine zza 52 (zI k) (zzg 53 146 _ fun _ _ cg cC=>qym (k_exactly (k:=k) cC (ce.ext cg) xq xq) ?_)
   rintro _ c6 dN ⟨am,ak,rfl,bB,cG⟩
   refine zzj ⟨57,am.cs++ak.cs⟩ ty57 ?_
   refine zzc 65 [(6,.adr 6 0)] [(6,⟨57,am.cs++ak.cs⟩)] (zzo (zyu (zzw (ret0 [.agg #[.bool am.s,am.m.v,am.d.v,.bool ak.s,ak.m.v,ak.d.v]] ⟨zzr ty57 zze,trivial⟩ fun c4 bg=>?_))))
   have hc:=cosA_h (r:=r) (q:=q) (b:=k) (by have h9:=ag;simp at h9;omega) (by have h9:=ad;simp at h9;omega)
   refine ⟨am,ak,rfl,RatN.more (K:=80) ?_ xq,RatN.more (K:=80) ?_ xq⟩
   ·rw[hc];exact (bB.ext bg)
   rw[hc];exact (cG.ext bg)
  have bv:¬2*r=q:=by have h9:=ad;simp at h9;omega
  refine sq9 (zzi 55 (zI r) ty3 zzl (qwi 56 ((3:Int)*(r:Int)) (3*r:Nat) xz (zzi 57 (zI q) ty3 zzl (zza 58 (zB (((3*r:Nat):Int)==(q:Int))) (zza 54 (zB (((3*r:Nat):Int)==(q:Int))) (zzc 65 [(2,zI k),(3,.adr 3 0),(4,.adr 4 0),(6,.adr 6 0),(54,zB (((3*r:Nat):Int)==(q:Int)))] [(3,⟨3,[.int .i64 r]⟩),(4,⟨3,[.int .i64 q]⟩),(6,⟨57,zw6⟩)] (zzu (b:=((3*r:Nat):Int)==(q:Int)) xj (fun ai=>?_) (fun ai=>?_))))))))
  ·refine sq9 (zzg 59 147 _ fun _ _ _ cu=>qym (k_ratFrac cu (a:=1) (b:=2) xq xq xq xq) ?_)
   rintro _ dp eu ⟨dY,rfl,ck⟩
   refine zza 60 (zI k) (zzg 61 146 _ fun _ _ bA cA=>qym (k_exactly (k:=k) cA (ck.ext bA) xq xq) ?_)
   rintro _ eo dy ⟨aB,aD,rfl,cf,bL⟩
   refine zzj ⟨57,aB.cs++aD.cs⟩ ty57 ?_
   refine zzb (zzo (zyu (zzw (ret0 [.agg #[.bool aB.s,aB.m.v,aB.d.v,.bool aD.s,aD.m.v,aD.d.v]] ⟨zzr ty57 zze,trivial⟩ fun dI bl=>?_))))
   have hc:=cosA_3 (r:=r) (q:=q) (b:=k) (by have h9:=ag;simp at h9;omega) (by have h9:=ad;simp at h9;omega) (by have h9:=ai;simp at h9;omega)
   refine ⟨aB,aD,rfl,RatN.more (K:=80) ?_ xq,RatN.more (K:=80) ?_ xq⟩
   ·rw[hc];exact (cf.ext bl)
   rw[hc];exact (bL.ext bl)
  have bt:¬3*r=q:=by have h9:=ai;simp at h9;omega
  refine zzs (zzp ?_)
  refine zzd (sw_pubA (r:=3) (t:=3) [3] xw xj zq zq xj (fun bH dC dE cY cS ba=>?_))
  refine sw_pubA (r:=4) (t:=4) [4] xw xj zq zq xj (fun cj dD cc cO cT a6=>?_)
  refine zzf (sy_fun 62 [.pointer (some ⟨bH,0,none⟩),.pointer (some ⟨cj,0,none⟩)] ?_)
  refine zza 63 (zI k) (zzg 64 148 _ fun _ _ a9 cr=>qym (k_irrCos (k:=k) cr ((cc.trans a9).cells ba) (a9.cells a6) hq0 xq xq xq (hG r xq xq xq) bq xq) ?_)
  rintro _ eD da ⟨au,ay,rfl,cm,cH⟩
  refine zzj ⟨57,au.cs++ay.cs⟩ ty57 ?_
  refine zzb (zzo (ret0 [.agg #[.bool au.s,au.m.v,au.d.v,.bool ay.s,ay.m.v,ay.d.v]] ⟨zzr ty57 zze,trivial⟩ fun ed be=>?_))
  have hc:=cosA_g (r:=r) (q:=q) (b:=k) (by have h9:=ag;simp at h9;omega) (by have h9:=ad;simp at h9;omega) (by have h9:=ai;simp at h9;omega)
  refine ⟨au,ay,rfl,RatN.more (K:=70) ?_ xq,RatN.more (K:=70) ?_ xq⟩
  ·rw[hc];exact (cm.ext be)
  rw[hc];exact (cH.ext be)
 have qhb11:=qyf aM
 refine zzs (zzp ?_)
 refine zzd (sq9 (zzi 16 (zI (Int.tmod p (2*(q:Int)))) ty3 zzl (zzi 17 (zI q) ty3 zzl (zza 18 (zB (decide ((q:Int)<(Int.tmod p (2*(q:Int)))))) (zzb (zzu (b:=decide ((q:Int)<(Int.tmod p (2*(q:Int))))) xj (fun aF=>?_) (fun aF=>?_)))))))
 ·have qhb159:=qyt aF
  refine zzf (zzi 19 (zI q) ty3 zzl (qwi 20 ((2:Int)*(q:Int)) (2*q:Nat) xz (zzi 21 (zI (Int.tmod p (2*(q:Int)))) ty3 zzl (zyq 22 (x:=zI (IntKind.i64.wrap (((2*q:Nat):Int) - (Int.tmod p (2*(q:Int)))))) (zI (((2*q:Nat):Int) - (Int.tmod p (2*(q:Int))))) yw (zzj ⟨3,[.int .i64 (((2*q:Nat):Int) - (Int.tmod p (2*(q:Int))))]⟩ ty3 ?_)))))
  refine zzb (zzd (zzd ?_))
  have hfold:(((2*q:Nat):Int) - (Int.tmod p (2*(q:Int))))=((fold p q:Nat):Int):=by unfold fold;dsimp only;split<;>omega
  rw[hfold]
  have hfl:=fold_le p q hq0
  obtain ⟨r,hr⟩:∃r,fold p q=r:=⟨_,rfl⟩
  rw[hr] at hfl ⊢
  clear hfold
  rw[hr] at hA
  refine zzf (zzi 23 (zI r) ty3 zzl (qwi 24 ((2:Int)*(r:Int)) (2*r:Nat) xz (zzi 25 (zI q) ty3 zzl (zza 26 (zB (decide ((q:Int)<((2*r:Nat):Int)))) (zzb (zzu (b:=decide ((q:Int)<((2*r:Nat):Int))) xj (fun hb=>?_) (fun hb=>?_)))))))
  ·exact absurd hb (by rw[show (decide ((q:Int)<((2*r:Nat):Int)))=false from decide_eq_false xq];decide)
  clear hb
  refine zzs (zzp ?_)
  refine zzd (zzt (sq9 (zzi 41 (zI r) ty3 zzl (zza 42 (zB ((r:Int)==0)) (zza 40 (zB ((r:Int)==0)) (zzb (zzu (b:=(r:Int)==0) xj (fun aa=>?_) (fun aa=>?_))))))))
  ·have aP:(r:Int)=0:=by simpa using aa
   refine sq9 (zzg 43 23 _ fun _ _ _ bN=>qym (k_ratOf bN (z:=1) xq xq) ?_)
   rintro _ d0 ef ⟨dm,rfl,b0⟩
   refine zza 44 (zI k) (zzg 45 146 _ fun _ _ cb cd=>qym (k_exactly (k:=k) cd (b0.ext cb) xq xq) ?_)
   rintro _ eC dH ⟨aK,aE,rfl,b8,cl⟩
   refine zzj ⟨57,aK.cs++aE.cs⟩ ty57 ?_
   refine zzb (zzo (zyu (zzw (ret0 [.agg #[.bool aK.s,aK.m.v,aK.d.v,.bool aE.s,aE.m.v,aE.d.v]] ⟨zzr ty57 zze,trivial⟩ fun ew a2=>?_))))
   have hc:=cosA_0 (r:=r) (q:=q) (b:=k) (by have h9:=aa;simp at h9;omega)
   refine ⟨aK,aE,rfl,RatN.more (K:=80) ?_ xq,RatN.more (K:=80) ?_ xq⟩
   ·rw[hc];exact (b8.ext a2)
   rw[hc];exact (cl.ext a2)
  have aP:¬((r:Int)=0):=by simpa using aa
  refine sq9 (zzi 47 (zI r) ty3 zzl (qwi 48 ((2:Int)*(r:Int)) (2*r:Nat) xz (zzi 49 (zI q) ty3 zzl (zza 50 (zB (((2*r:Nat):Int)==(q:Int))) (zza 46 (zB (((2*r:Nat):Int)==(q:Int))) (zzb (zzu (b:=((2*r:Nat):Int)==(q:Int)) xj (fun ae=>?_) (fun ae=>?_))))))))
  ·refine sq9 (zzg 51 23 _ fun _ _ _ cy=>qym (k_ratOf cy (z:=0) xq xq) ?_)
   rintro _ dw d9 ⟨c8,rfl,ca⟩
   refine zza 52 (zI k) (zzg 53 146 _ fun _ _ bQ bz=>qym (k_exactly (k:=k) bz (ca.ext bQ) xq xq) ?_)
   rintro _ ej eB ⟨aq,an,rfl,bP,bU⟩
   refine zzj ⟨57,aq.cs++an.cs⟩ ty57 ?_
   refine zzc 65 [(6,.adr 6 0)] [(6,⟨57,aq.cs++an.cs⟩)] (zzo (zyu (zzw (ret0 [.agg #[.bool aq.s,aq.m.v,aq.d.v,.bool an.s,an.m.v,an.d.v]] ⟨zzr ty57 zze,trivial⟩ fun ea bo=>?_))))
   have hc:=cosA_h (r:=r) (q:=q) (b:=k) (by have h9:=aa;simp at h9;omega) (by have h9:=ae;simp at h9;omega)
   refine ⟨aq,an,rfl,RatN.more (K:=80) ?_ xq,RatN.more (K:=80) ?_ xq⟩
   ·rw[hc];exact (bP.ext bo)
   rw[hc];exact (bU.ext bo)
  have bw:¬2*r=q:=by have h9:=ae;simp at h9;omega
  refine sq9 (zzi 55 (zI r) ty3 zzl (qwi 56 ((3:Int)*(r:Int)) (3*r:Nat) xz (zzi 57 (zI q) ty3 zzl (zza 58 (zB (((3*r:Nat):Int)==(q:Int))) (zza 54 (zB (((3*r:Nat):Int)==(q:Int))) (zzc 65 [(2,zI k),(3,.adr 3 0),(4,.adr 4 0),(6,.adr 6 0),(54,zB (((3*r:Nat):Int)==(q:Int)))] [(3,⟨3,[.int .i64 r]⟩),(4,⟨3,[.int .i64 q]⟩),(6,⟨57,zw6⟩)] (zzu (b:=((3*r:Nat):Int)==(q:Int)) xj (fun ah=>?_) (fun ah=>?_))))))))
  ·refine sq9 (zzg 59 147 _ fun _ _ _ bI=>qym (k_ratFrac bI (a:=1) (b:=2) xq xq xq xq) ?_)
   rintro _ eG dx ⟨dv,rfl,bJ⟩
   refine zza 60 (zI k) (zzg 61 146 _ fun _ _ cq b3=>qym (k_exactly (k:=k) b3 (bJ.ext cq) xq xq) ?_)
   rintro _ c1 ez ⟨aw,aH,rfl,cv,cD⟩
   refine zzj ⟨57,aw.cs++aH.cs⟩ ty57 ?_
   refine zzb (zzo (zyu (zzw (ret0 [.agg #[.bool aw.s,aw.m.v,aw.d.v,.bool aH.s,aH.m.v,aH.d.v]] ⟨zzr ty57 zze,trivial⟩ fun dd a5=>?_))))
   have hc:=cosA_3 (r:=r) (q:=q) (b:=k) (by have h9:=aa;simp at h9;omega) (by have h9:=ae;simp at h9;omega) (by have h9:=ah;simp at h9;omega)
   refine ⟨aw,aH,rfl,RatN.more (K:=80) ?_ xq,RatN.more (K:=80) ?_ xq⟩
   ·rw[hc];exact (cv.ext a5)
   rw[hc];exact (cD.ext a5)
  have bs:¬3*r=q:=by have h9:=ah;simp at h9;omega
  refine zzs (zzp ?_)
  refine zzd (sw_pubA (r:=3) (t:=3) [3] xw xj zq zq xj (fun cF dt dU cU cV a7=>?_))
  refine sw_pubA (r:=4) (t:=4) [4] xw xj zq zq xj (fun bK ei bD cQ cP bb=>?_)
  refine zzf (sy_fun 62 [.pointer (some ⟨cF,0,none⟩),.pointer (some ⟨bK,0,none⟩)] ?_)
  refine zza 63 (zI k) (zzg 64 148 _ fun _ _ aY b4=>qym (k_irrCos (k:=k) b4 ((bD.trans aY).cells a7) (aY.cells bb) hq0 xq xq xq (hG r xq xq xq) bq xq) ?_)
  rintro _ eg dT ⟨aC,av,rfl,bX,bR⟩
  refine zzj ⟨57,aC.cs++av.cs⟩ ty57 ?_
  refine zzb (zzo (ret0 [.agg #[.bool aC.s,aC.m.v,aC.d.v,.bool av.s,av.m.v,av.d.v]] ⟨zzr ty57 zze,trivial⟩ fun dk aU=>?_))
  have hc:=cosA_g (r:=r) (q:=q) (b:=k) (by have h9:=aa;simp at h9;omega) (by have h9:=ae;simp at h9;omega) (by have h9:=ah;simp at h9;omega)
  refine ⟨aC,av,rfl,RatN.more (K:=70) ?_ xq,RatN.more (K:=70) ?_ xq⟩
  ·rw[hc];exact (bX.ext aU)
  rw[hc];exact (bR.ext aU)
 have qhb159:=qyf aF
 refine zzs (zzp ?_)
 refine zzd (zzd ?_)
 have hfold:(Int.tmod p (2*(q:Int)))=((fold p q:Nat):Int):=by unfold fold;dsimp only;split<;>omega
 rw[hfold]
 have hfl:=fold_le p q hq0
 obtain ⟨r,hr⟩:∃r,fold p q=r:=⟨_,rfl⟩
 rw[hr] at hfl ⊢
 clear hfold
 rw[hr] at hA
 refine zzf (zzi 23 (zI r) ty3 zzl (qwi 24 ((2:Int)*(r:Int)) (2*r:Nat) xz (zzi 25 (zI q) ty3 zzl (zza 26 (zB (decide ((q:Int)<((2*r:Nat):Int)))) (zzb (zzu (b:=decide ((q:Int)<((2*r:Nat):Int))) xj (fun hb=>?_) (fun hb=>?_)))))))
 ·exact absurd hb (by rw[show (decide ((q:Int)<((2*r:Nat):Int)))=false from decide_eq_false xq];decide)
 clear hb
 refine zzs (zzp ?_)
 refine zzd (zzt (sq9 (zzi 41 (zI r) ty3 zzl (zza 42 (zB ((r:Int)==0)) (zza 40 (zB ((r:Int)==0)) (zzb (zzu (b:=(r:Int)==0) xj (fun ab=>?_) (fun ab=>?_))))))))
 ·have aO:(r:Int)=0:=by simpa using ab
  refine sq9 (zzg 43 23 _ fun _ _ _ cw=>qym (k_ratOf cw (z:=1) xq xq) ?_)
  rintro _ dQ df ⟨ex,rfl,b2⟩
  refine zza 44 (zI k) (zzg 45 146 _ fun _ _ bT ci=>qym (k_exactly (k:=k) ci (b2.ext bT) xq xq) ?_)
  rintro _ dX dn ⟨aJ,aG,rfl,bE,bY⟩
  refine zzj ⟨57,aJ.cs++aG.cs⟩ ty57 ?_
  refine zzb (zzo (zyu (zzw (ret0 [.agg #[.bool aJ.s,aJ.m.v,aJ.d.v,.bool aG.s,aG.m.v,aG.d.v]] ⟨zzr ty57 zze,trivial⟩ fun dA aV=>?_))))
  have hc:=cosA_0 (r:=r) (q:=q) (b:=k) (by have h9:=ab;simp at h9;omega)
  refine ⟨aJ,aG,rfl,RatN.more (K:=80) ?_ xq,RatN.more (K:=80) ?_ xq⟩
  ·rw[hc];exact (bE.ext aV)
  rw[hc];exact (bY.ext aV)
 have aO:¬((r:Int)=0):=by simpa using ab
 refine sq9 (zzi 47 (zI r) ty3 zzl (qwi 48 ((2:Int)*(r:Int)) (2*r:Nat) xz (zzi 49 (zI q) ty3 zzl (zza 50 (zB (((2*r:Nat):Int)==(q:Int))) (zza 46 (zB (((2*r:Nat):Int)==(q:Int))) (zzb (zzu (b:=((2*r:Nat):Int)==(q:Int)) xj (fun ac=>?_) (fun ac=>?_))))))))
 ·refine sq9 (zzg 51 23 _ fun _ _ _ b5=>qym (k_ratOf b5 (z:=0) xq xq) ?_)
  rintro _ ep d1 ⟨dJ,rfl,ct⟩
  refine zza 52 (zI k) (zzg 53 146 _ fun _ _ b9 bW=>qym (k_exactly (k:=k) bW (ct.ext b9) xq xq) ?_)
  rintro _ dW de ⟨aI,aA,rfl,cp,cE⟩
  refine zzj ⟨57,aI.cs++aA.cs⟩ ty57 ?_
  refine zzb (zzo (zyu (zzw (ret0 [.agg #[.bool aI.s,aI.m.v,aI.d.v,.bool aA.s,aA.m.v,aA.d.v]] ⟨zzr ty57 zze,trivial⟩ fun dK aS=>?_))))
  have hc:=cosA_h (r:=r) (q:=q) (b:=k) (by have h9:=ab;simp at h9;omega) (by have h9:=ac;simp at h9;omega)
  refine ⟨aI,aA,rfl,RatN.more (K:=80) ?_ xq,RatN.more (K:=80) ?_ xq⟩
  ·rw[hc];exact (cp.ext aS)
  rw[hc];exact (cE.ext aS)
 have bu:¬2*r=q:=by have h9:=ac;simp at h9;omega
 refine sq9 (zzi 55 (zI r) ty3 zzl (qwi 56 ((3:Int)*(r:Int)) (3*r:Nat) xz (zzi 57 (zI q) ty3 zzl (zza 58 (zB (((3*r:Nat):Int)==(q:Int))) (zza 54 (zB (((3*r:Nat):Int)==(q:Int))) (zzb (zzu (b:=((3*r:Nat):Int)==(q:Int)) xj (fun aj=>?_) (fun aj=>?_))))))))
 ·refine sq9 (zzg 59 147 _ fun _ _ _ bV=>qym (k_ratFrac bV (a:=1) (b:=2) xq xq xq xq) ?_)
  rintro _ et en ⟨em,rfl,cn⟩
  refine zza 60 (zI k) (zzg 61 146 _ fun _ _ ch bC=>qym (k_exactly (k:=k) bC (cn.ext ch) xq xq) ?_)
  rintro _ d6 dr ⟨ar,ao,rfl,b6,bG⟩
  refine zzj ⟨57,ar.cs++ao.cs⟩ ty57 ?_
  refine zzc 65 [(6,.adr 6 0)] [(6,⟨57,ar.cs++ao.cs⟩)] (zzo (zyu (zzw (ret0 [.agg #[.bool ar.s,ar.m.v,ar.d.v,.bool ao.s,ao.m.v,ao.d.v]] ⟨zzr ty57 zze,trivial⟩ fun eb bk=>?_))))
  have hc:=cosA_3 (r:=r) (q:=q) (b:=k) (by have h9:=ab;simp at h9;omega) (by have h9:=ac;simp at h9;omega) (by have h9:=aj;simp at h9;omega)
  refine ⟨ar,ao,rfl,RatN.more (K:=80) ?_ xq,RatN.more (K:=80) ?_ xq⟩
  ·rw[hc];exact (b6.ext bk)
  rw[hc];exact (bG.ext bk)
 have br:¬3*r=q:=by have h9:=aj;simp at h9;omega
 refine zzs (zzp ?_)
 refine zzd (sw_pubA (r:=3) (t:=3) [3] xw xj zq zq xj (fun cx c9 dP cI cX bc=>?_))
 refine sw_pubA (r:=4) (t:=4) [4] xw xj zq zq xj (fun cz dj cB cN cK bi=>?_)
 refine zzf (sy_fun 62 [.pointer (some ⟨cx,0,none⟩),.pointer (some ⟨cz,0,none⟩)] ?_)
 refine zza 63 (zI k) (zzg 64 148 _ fun _ _ aW bx=>qym (k_irrCos (k:=k) bx ((cB.trans aW).cells bc) (aW.cells bi) hq0 xq xq xq (hG r xq xq xq) bq xq) ?_)
 rintro _ eq dV ⟨ap,al,rfl,bM,b7⟩
 refine zzj ⟨57,ap.cs++al.cs⟩ ty57 ?_
 refine zzc 65 [(6,.adr 6 0)] [(6,⟨57,ap.cs++al.cs⟩)] (zzo (ret0 [.agg #[.bool ap.s,ap.m.v,ap.d.v,.bool al.s,al.m.v,al.d.v]] ⟨zzr ty57 zze,trivial⟩ fun dM a3=>?_))
 have hc:=cosA_g (r:=r) (q:=q) (b:=k) (by have h9:=ab;simp at h9;omega) (by have h9:=ac;simp at h9;omega) (by have h9:=aj;simp at h9;omega)
 refine ⟨ap,al,rfl,RatN.more (K:=70) ?_ xq,RatN.more (K:=70) ?_ xq⟩
 ·rw[hc];exact (bM.ext a3)
 rw[hc];exact (b7.ext a3)
theorem k_cosine {u w:World} {p:Int} {q k:Nat} (d:Dat u w) (hq0:0<q) (hq2:q≤10000) (hG0:GapQ q k) (hp0 : -1000000000≤p) (hp1:p≤1000000000) (hk:k≤256)  : qyc 90 #[.int .i64 p,.int .i64 (q:Int),.int .i64 (k:Int)] w (Post u w fun v u'=>∃r1 r2:RL,v=IV r1 r2∧RatN u' r1 ((cosV p q k).1) 80∧RatN u' r2 ((cosV p q k).2) 80):=by
 have htm:=tmod_bd p hq0
 obtain ⟨g,bT,hG⟩:=id hG0
 refine zzm Tryz.func90 rfl Tryz.ntmps90 Tryz.results90 d ?_
 refine sq9 (zzk 3 ⟨3,[.int .i64 p]⟩ (zzk 4 ⟨3,[.int .i64 q]⟩ (zzk 6 ⟨57,zw6⟩ (zzb (sq9 (zzi 8 (zI p) ty3 zzl (zzi 9 (zI q) ty3 zzl (qwi 10 ((2:Int)*(q:Int)) (2*q:Nat) xz (sy_rem 11 (m:=((2*q:Nat):Int)) (Int.tmod p (2*(q:Int))) xq (by rw[Int.natCast_mul];rfl) ?_)))))))))
 refine zzj ⟨3,[.int .i64 (Int.tmod p (2*(q:Int)))]⟩ ty3 ?_
 refine zzb (zzd (sq9 (zzi 12 (zI (Int.tmod p (2*(q:Int)))) ty3 zzl (zza 13 (zB (decide ((Int.tmod p (2*(q:Int)))<0))) (zzb (zzu (b:=decide ((Int.tmod p (2*(q:Int)))<0)) xj (fun a5=>?_) (fun a5=>?_)))))))
 ·have qhb11:=qyt a5
  refine zzf (zzi 14 (zI (Int.tmod p (2*(q:Int)))) ty3 zzl (qwi 15 (0 - (Int.tmod p (2*(q:Int)))) (-(Int.tmod p (2*(q:Int)))) xz (zzj ⟨3,[.int .i64 (-(Int.tmod p (2*(q:Int))))]⟩ ty3 ?_)))
  refine zzb (zzd (sq9 (zzi 16 (zI (-(Int.tmod p (2*(q:Int))))) ty3 zzl (zzi 17 (zI q) ty3 zzl (zza 18 (zB (decide ((q:Int)<(-(Int.tmod p (2*(q:Int))))))) (zzb (zzu (b:=decide ((q:Int)<(-(Int.tmod p (2*(q:Int)))))) xj (fun a4=>?_) (fun a4=>?_))))))))
  ·have qhb12:=qyt a4
   refine zzf (zzi 19 (zI q) ty3 zzl (qwi 20 ((2:Int)*(q:Int)) (2*q:Nat) xz (zzi 21 (zI (-(Int.tmod p (2*(q:Int))))) ty3 zzl (zyq 22 (x:=zI (IntKind.i64.wrap (((2*q:Nat):Int) - (-(Int.tmod p (2*(q:Int))))))) (zI (((2*q:Nat):Int) - (-(Int.tmod p (2*(q:Int)))))) yw (zzj ⟨3,[.int .i64 (((2*q:Nat):Int) - (-(Int.tmod p (2*(q:Int)))))]⟩ ty3 ?_)))))
   refine zzb (zzd (zzd ?_))
   have hfold:(((2*q:Nat):Int) - (-(Int.tmod p (2*(q:Int)))))=((fold p q:Nat):Int):=by unfold fold;dsimp only;split<;>omega
   rw[hfold]
   have hfl:=fold_le p q hq0
   obtain ⟨r,hr⟩:∃r,fold p q=r:=⟨_,rfl⟩
   rw[hr] at hfl ⊢
   clear hfold
   refine zzf (zzi 23 (zI r) ty3 zzl (qwi 24 ((2:Int)*(r:Int)) (2*r:Nat) xz (zzi 25 (zI q) ty3 zzl (zza 26 (zB (decide ((q:Int)<((2*r:Nat):Int)))) (zzb (zzu (b:=decide ((q:Int)<((2*r:Nat):Int))) xj (fun aj=>?_) (fun aj=>?_)))))))
   ·have qhb13:=qyt aj
    have hb9:=aj
    refine sq9 (zzi 27 (zI q) ty3 zzl (zzi 28 (zI r) ty3 zzl (qwi 29 ((q:Int) - (r:Int)) (q - r:Nat) xz (zzi 30 (zI q) ty3 zzl (zza 31 (zI k) (zzg 32 90 _ fun _ _ _ eR=>qym ((show Calls _ _ #[.int .i64 (q - r:Nat),.int .i64 q,.int .i64 k] _ _ from (by have h9:=k_cosA (p:=((q - r:Nat):Int)) (q:=q) (k:=k) eR hq0 hq2 hG0 xq xq hk (by rw[fold_id xq];have h8:=qyt hb9;omega);rw[fold_id xq] at h9;exact h9))) ?_))))))
    rintro _ u19 g20 ⟨dx,dc,rfl,fk,fY⟩
    refine zzk 7 ⟨57,zw6⟩ (zzj ⟨57,dx.cs++dc.cs⟩ ty57 ?_)
    refine zzc 65 [(6,.adr 6 0),(7,.adr 7 0)] [(6,⟨57,zw6⟩),(7,⟨57,dx.cs++dc.cs⟩)] (zzd (zzz [0,1,3,0,8,31,63,127] [(0,[]),(1,[]),(3,[]),(4,[]),(2,[]),(5,[]),(6,[]),(7,[])] xj xj (zza 33 (.adr 7 3) (zzi 34 (.v (dc.v)) ty28 zze (zza 36 (.adr 7 0) (zzi 37 (.v (dx.v)) ty28 zze (zzg 35 145 _ fun _ _ d6 fx=>qym (k_ratNeg fx (fY.ext d6).raw xq) ?_)))))))
    rintro _ u25 eq ⟨a1,rfl,eV⟩
    refine zzg 38 145 _ fun _ _ dZ ey=>qym (k_ratNeg ey (fk.ext (d6.t (eq.t dZ))).raw xq) ?_
    rintro _ u31 eI ⟨a0,rfl,fv⟩
    refine zza 39 (.v (.agg #[.bool a1.s,a1.m.v,a1.d.v,.bool a0.s,a0.m.v,a0.d.v])) (zzj ⟨57,a1.cs++a0.cs⟩ ty57 ?_)
    refine zzb (zzo (zzw (ret0 [.agg #[.bool a1.s,a1.m.v,a1.d.v,.bool a0.s,a0.m.v,a0.d.v]] ⟨zzr ty57 zze,trivial⟩ fun u34 d5=>?_)))
    have hc:=cosV_hi (b:=k) hr (by have h9:=qyt aj;omega)
    refine ⟨a1,a0,rfl,RatN.more (K:=80) ?_ xq,RatN.more (K:=80) ?_ xq⟩
    ·rw[hc];exact (eV.ext (dZ.t (eI.t d5)))
    rw[hc];exact (fv.ext d5)
   have qhb13:=qyf aj
   refine zzs (zzp ?_)
   refine zzd (zzt (sq9 (zzi 41 (zI r) ty3 zzl (zza 42 (zB ((r:Int)==0)) (zza 40 (zB ((r:Int)==0)) (zzb (zzu (b:=(r:Int)==0) xj (fun aq=>?_) (fun aq=>?_))))))))
   ·have bM:(r:Int)=0:=by simpa using aq
    refine sq9 (zzg 43 23 _ fun _ _ _ eF=>qym (k_ratOf eF (z:=1) xq xq) ?_)
    rintro _ u40 g41 ⟨r38,rfl,eP⟩
    refine zza 44 (zI k) (zzg 45 146 _ fun _ _ eg eQ=>qym (k_exactly (k:=k) eQ (eP.ext eg) xq xq) ?_)
    rintro _ u48 g49 ⟨a7,a8,rfl,eu,eY⟩
    refine zzj ⟨57,a7.cs++a8.cs⟩ ty57 ?_
    refine zzc 65 [(6,.adr 6 0)] [(6,⟨57,a7.cs++a8.cs⟩)] (zzo (zyu (zzw (ret0 [.agg #[.bool a7.s,a7.m.v,a7.d.v,.bool a8.s,a8.m.v,a8.d.v]] ⟨zzr ty57 zze,trivial⟩ fun u51 dV=>?_))))
    have hc:=(cosV_lo (b:=k) hr (by have h9:=qyf aj;omega)).trans (cosA_0 (r:=r) (q:=q) (b:=k) (by have h9:=aq;simp at h9;omega))
    refine ⟨a7,a8,rfl,RatN.more (K:=80) ?_ xq,RatN.more (K:=80) ?_ xq⟩
    ·rw[hc];exact (eu.ext dV)
    rw[hc];exact (eY.ext dV)
   have bM:¬((r:Int)=0):=by simpa using aq
   refine sq9 (zzi 47 (zI r) ty3 zzl (qwi 48 ((2:Int)*(r:Int)) (2*r:Nat) xz (zzi 49 (zI q) ty3 zzl (zza 50 (zB (((2*r:Nat):Int)==(q:Int))) (zza 46 (zB (((2*r:Nat):Int)==(q:Int))) (zzc 65 [(2,zI k),(3,.adr 3 0),(4,.adr 4 0),(6,.adr 6 0),(46,zB (((2*r:Nat):Int)==(q:Int)))] [(3,⟨3,[.int .i64 r]⟩),(4,⟨3,[.int .i64 q]⟩),(6,⟨57,zw6⟩)] (zzu (b:=((2*r:Nat):Int)==(q:Int)) xj (fun aS=>?_) (fun aS=>?_))))))))
   ·refine sq9 (zzg 51 23 _ fun _ _ _ f0=>qym (k_ratOf f0 (z:=0) xq xq) ?_)
    rintro _ u57 g58 ⟨r55,rfl,fF⟩
    refine zza 52 (zI k) (zzg 53 146 _ fun _ _ fO f3=>qym (k_exactly (k:=k) f3 (fF.ext fO) xq xq) ?_)
    rintro _ u65 g66 ⟨bu,bk,rfl,f8,eB⟩
    refine zzj ⟨57,bu.cs++bk.cs⟩ ty57 ?_
    refine zzb (zzo (zyu (zzw (ret0 [.agg #[.bool bu.s,bu.m.v,bu.d.v,.bool bk.s,bk.m.v,bk.d.v]] ⟨zzr ty57 zze,trivial⟩ fun u68 dU=>?_))))
    have hc:=(cosV_lo (b:=k) hr (by have h9:=qyf aj;omega)).trans (cosA_h (r:=r) (q:=q) (b:=k) (by have h9:=aq;simp at h9;omega) (by have h9:=aS;simp at h9;omega))
    refine ⟨bu,bk,rfl,RatN.more (K:=80) ?_ xq,RatN.more (K:=80) ?_ xq⟩
    ·rw[hc];exact (f8.ext dU)
    rw[hc];exact (eB.ext dU)
   have cI:¬2*r=q:=by have h9:=aS;simp at h9;omega
   refine sq9 (zzi 55 (zI r) ty3 zzl (qwi 56 ((3:Int)*(r:Int)) (3*r:Nat) xz (zzi 57 (zI q) ty3 zzl (zza 58 (zB (((3*r:Nat):Int)==(q:Int))) (zza 54 (zB (((3*r:Nat):Int)==(q:Int))) (zzb (zzu (b:=((3*r:Nat):Int)==(q:Int)) xj (fun aZ=>?_) (fun aZ=>?_))))))))
   ·refine sq9 (zzg 59 147 _ fun _ _ _ fQ=>qym (k_ratFrac fQ (a:=1) (b:=2) xq xq xq xq) ?_)
    rintro _ u74 g75 ⟨r72,rfl,fG⟩
    refine zza 60 (zI k) (zzg 61 146 _ fun _ _ fC eM=>qym (k_exactly (k:=k) eM (fG.ext fC) xq xq) ?_)
    rintro _ u82 g83 ⟨bh,bD,rfl,eh,fN⟩
    refine zzj ⟨57,bh.cs++bD.cs⟩ ty57 ?_
    refine zzb (zzo (zyu (zzw (ret0 [.agg #[.bool bh.s,bh.m.v,bh.d.v,.bool bD.s,bD.m.v,bD.d.v]] ⟨zzr ty57 zze,trivial⟩ fun u85 dX=>?_))))
    have hc:=(cosV_lo (b:=k) hr (by have h9:=qyf aj;omega)).trans (cosA_3 (r:=r) (q:=q) (b:=k) (by have h9:=aq;simp at h9;omega) (by have h9:=aS;simp at h9;omega) (by have h9:=aZ;simp at h9;omega))
    refine ⟨bh,bD,rfl,RatN.more (K:=80) ?_ xq,RatN.more (K:=80) ?_ xq⟩
    ·rw[hc];exact (eh.ext dX)
    rw[hc];exact (fN.ext dX)
   have cY:¬3*r=q:=by have h9:=aZ;simp at h9;omega
   refine zzs (zzp ?_)
   refine zzd (sw_pubA (r:=3) (t:=3) [3] xw xj zq zq xj (fun ee u88 e89 fg eL cu=>?_))
   refine sw_pubA (r:=4) (t:=4) [4] xw xj zq zq xj (fun fj u94 eS er fb dH=>?_)
   refine zzf (sy_fun 62 [.pointer (some ⟨ee,0,none⟩),.pointer (some ⟨fj,0,none⟩)] ?_)
   refine zza 63 (zI k) (zzg 64 148 _ fun _ _ dW fZ=>qym (k_irrCos (k:=k) fZ ((eS.trans dW).cells cu) (dW.cells dH) hq0 xq xq xq (hG r xq xq xq) bT xq) ?_)
   rintro _ ga ef ⟨aY,aF,rfl,c4,di⟩
   refine zzj ⟨57,aY.cs++aF.cs⟩ ty57 ?_
   refine zzb (zzo (ret0 [.agg #[.bool aY.s,aY.m.v,aY.d.v,.bool aF.s,aF.m.v,aF.d.v]] ⟨zzr ty57 zze,trivial⟩ fun fB bz=>?_))
   have hc:=(cosV_lo (b:=k) hr (by have h9:=qyf aj;omega)).trans (cosA_g (r:=r) (q:=q) (b:=k) (by have h9:=aq;simp at h9;omega) (by have h9:=aS;simp at h9;omega) (by have h9:=aZ;simp at h9;omega))
   refine ⟨aY,aF,rfl,RatN.more (K:=70) ?_ xq,RatN.more (K:=70) ?_ xq⟩
   ·rw[hc];exact (c4.ext bz)
   rw[hc];exact (di.ext bz)
  have qhb12:=qyf a4
  refine zzs (zzp ?_)
  refine zzd (zzd ?_)
  have hfold:(-(Int.tmod p (2*(q:Int))))=((fold p q:Nat):Int):=by unfold fold;dsimp only;split<;>omega
  rw[hfold]
  have hfl:=fold_le p q hq0
  obtain ⟨r,hr⟩:∃r,fold p q=r:=⟨_,rfl⟩
  rw[hr] at hfl ⊢
  clear hfold
  refine zzf (zzi 23 (zI r) ty3 zzl (qwi 24 ((2:Int)*(r:Int)) (2*r:Nat) xz (zzi 25 (zI q) ty3 zzl (zza 26 (zB (decide ((q:Int)<((2*r:Nat):Int)))) (zzb (zzu (b:=decide ((q:Int)<((2*r:Nat):Int))) xj (fun aa=>?_) (fun aa=>?_)))))))
  ·have qhb109:=qyt aa
   have hb9:=aa
   refine sq9 (zzi 27 (zI q) ty3 zzl (zzi 28 (zI r) ty3 zzl (qwi 29 ((q:Int) - (r:Int)) (q - r:Nat) xz (zzi 30 (zI q) ty3 zzl (zza 31 (zI k) (zzg 32 90 _ fun _ _ _ cS=>qym ((show Calls _ _ #[.int .i64 (q - r:Nat),.int .i64 q,.int .i64 k] _ _ from (by have h9:=k_cosA (p:=((q - r:Nat):Int)) (q:=q) (k:=k) cS hq0 hq2 hG0 xq xq hk (by rw[fold_id xq];have h8:=qyt hb9;omega);rw[fold_id xq] at h9;exact h9))) ?_))))))
   rintro _ fc fo ⟨bt,bs,rfl,b2,cx⟩
   refine zzk 7 ⟨57,zw6⟩ (zzj ⟨57,bt.cs++bs.cs⟩ ty57 ?_)
   refine zzb (zzd (zzz [0,1,3,0,8,31,63,127] [(0,[]),(1,[]),(3,[]),(4,[]),(2,[]),(5,[]),(6,[]),(7,[])] xj xj (zza 33 (.adr 7 3) (zzi 34 (.v (bs.v)) ty28 zze (zza 36 (.adr 7 0) (zzi 37 (.v (bt.v)) ty28 zze (zzg 35 145 _ fun _ _ bo cy=>qym (k_ratNeg cy (cx.ext bo).raw xq) ?_)))))))
   rintro _ f7 cd ⟨al,rfl,cE⟩
   refine zzg 38 145 _ fun _ _ bO dh=>qym (k_ratNeg dh (b2.ext (bo.t (cd.t bO))).raw xq) ?_
   rintro _ fR b9 ⟨ak,rfl,c3⟩
   refine zza 39 (.v (.agg #[.bool al.s,al.m.v,al.d.v,.bool ak.s,ak.m.v,ak.d.v])) (zzj ⟨57,al.cs++ak.cs⟩ ty57 ?_)
   refine zzc 65 [(6,.adr 6 0)] [(6,⟨57,al.cs++ak.cs⟩)] (zzo (zzw (ret0 [.agg #[.bool al.s,al.m.v,al.d.v,.bool ak.s,ak.m.v,ak.d.v]] ⟨zzr ty57 zze,trivial⟩ fun fm a9=>?_)))
   have hc:=cosV_hi (b:=k) hr (by have h9:=qyt aa;omega)
   refine ⟨al,ak,rfl,RatN.more (K:=80) ?_ xq,RatN.more (K:=80) ?_ xq⟩
   ·rw[hc];exact (cE.ext (bO.t (b9.t a9)))
   rw[hc];exact (c3.ext a9)
  have qhb109:=qyf aa
  refine zzs (zzp ?_)
  refine zzd (zzt (sq9 (zzi 41 (zI r) ty3 zzl (zza 42 (zB ((r:Int)==0)) (zza 40 (zB ((r:Int)==0)) (zzb (zzu (b:=(r:Int)==0) xj (fun af=>?_) (fun af=>?_))))))))
  ·have a6:(r:Int)=0:=by simpa using af
   refine sq9 (zzg 43 23 _ fun _ _ _ cZ=>qym (k_ratOf cZ (z:=1) xq xq) ?_)
   rintro _ eW eo ⟨eA,rfl,cX⟩
   refine zza 44 (zI k) (zzg 45 146 _ fun _ _ c7 ci=>qym (k_exactly (k:=k) ci (cX.ext c7) xq xq) ?_)
   rintro _ em eH ⟨aR,aK,rfl,dK,c9⟩
   refine zzj ⟨57,aR.cs++aK.cs⟩ ty57 ?_
   refine zzb (zzo (zyu (zzw (ret0 [.agg #[.bool aR.s,aR.m.v,aR.d.v,.bool aK.s,aK.m.v,aK.d.v]] ⟨zzr ty57 zze,trivial⟩ fun eO bG=>?_))))
   have hc:=(cosV_lo (b:=k) hr (by have h9:=qyf aa;omega)).trans (cosA_0 (r:=r) (q:=q) (b:=k) (by have h9:=af;simp at h9;omega))
   refine ⟨aR,aK,rfl,RatN.more (K:=80) ?_ xq,RatN.more (K:=80) ?_ xq⟩
   ·rw[hc];exact (dK.ext bG)
   rw[hc];exact (c9.ext bG)
  have a6:¬((r:Int)=0):=by simpa using af
  refine sq9 (zzi 47 (zI r) ty3 zzl (qwi 48 ((2:Int)*(r:Int)) (2*r:Nat) xz (zzi 49 (zI q) ty3 zzl (zza 50 (zB (((2*r:Nat):Int)==(q:Int))) (zza 46 (zB (((2*r:Nat):Int)==(q:Int))) (zzb (zzu (b:=((2*r:Nat):Int)==(q:Int)) xj (fun ao=>?_) (fun ao=>?_))))))))
  ·refine sq9 (zzg 51 23 _ fun _ _ _ dG=>qym (k_ratOf dG (z:=0) xq xq) ?_)
   rintro _ fw ed ⟨d9,rfl,cR⟩
   refine zza 52 (zI k) (zzg 53 146 _ fun _ _ c0 b5=>qym (k_exactly (k:=k) b5 (cR.ext c0) xq xq) ?_)
   rintro _ es eZ ⟨aD,aB,rfl,ck,dL⟩
   refine zzj ⟨57,aD.cs++aB.cs⟩ ty57 ?_
   refine zzc 65 [(6,.adr 6 0)] [(6,⟨57,aD.cs++aB.cs⟩)] (zzo (zyu (zzw (ret0 [.agg #[.bool aD.s,aD.m.v,aD.d.v,.bool aB.s,aB.m.v,aB.d.v]] ⟨zzr ty57 zze,trivial⟩ fun fX bA=>?_))))
   have hc:=(cosV_lo (b:=k) hr (by have h9:=qyf aa;omega)).trans (cosA_h (r:=r) (q:=q) (b:=k) (by have h9:=af;simp at h9;omega) (by have h9:=ao;simp at h9;omega))
   refine ⟨aD,aB,rfl,RatN.more (K:=80) ?_ xq,RatN.more (K:=80) ?_ xq⟩
   ·rw[hc];exact (ck.ext bA)
   rw[hc];exact (dL.ext bA)
  have bY:¬2*r=q:=by have h9:=ao;simp at h9;omega
  refine sq9 (zzi 55 (zI r) ty3 zzl (qwi 56 ((3:Int)*(r:Int)) (3*r:Nat) xz (zzi 57 (zI q) ty3 zzl (zza 58 (zB (((3*r:Nat):Int)==(q:Int))) (zza 54 (zB (((3*r:Nat):Int)==(q:Int))) (zzc 65 [(2,zI k),(3,.adr 3 0),(4,.adr 4 0),(6,.adr 6 0),(54,zB (((3*r:Nat):Int)==(q:Int)))] [(3,⟨3,[.int .i64 r]⟩),(4,⟨3,[.int .i64 q]⟩),(6,⟨57,zw6⟩)] (zzu (b:=((3*r:Nat):Int)==(q:Int)) xj (fun av=>?_) (fun av=>?_))))))))
  ·refine sq9 (zzg 59 147 _ fun _ _ _ dE=>qym (k_ratFrac dE (a:=1) (b:=2) xq xq xq xq) ?_)
   rintro _ eK e1 ⟨e5,rfl,dB⟩
   refine zza 60 (zI k) (zzg 61 146 _ fun _ _ de c2=>qym (k_exactly (k:=k) c2 (dB.ext de) xq xq) ?_)
   rintro _ fy eC ⟨aT,aL,rfl,cf,cN⟩
   refine zzj ⟨57,aT.cs++aL.cs⟩ ty57 ?_
   refine zzb (zzo (zyu (zzw (ret0 [.agg #[.bool aT.s,aT.m.v,aT.d.v,.bool aL.s,aL.m.v,aL.d.v]] ⟨zzr ty57 zze,trivial⟩ fun fL bg=>?_))))
   have hc:=(cosV_lo (b:=k) hr (by have h9:=qyf aa;omega)).trans (cosA_3 (r:=r) (q:=q) (b:=k) (by have h9:=af;simp at h9;omega) (by have h9:=ao;simp at h9;omega) (by have h9:=av;simp at h9;omega))
   refine ⟨aT,aL,rfl,RatN.more (K:=80) ?_ xq,RatN.more (K:=80) ?_ xq⟩
   ·rw[hc];exact (cf.ext bg)
   rw[hc];exact (cN.ext bg)
  have bZ:¬3*r=q:=by have h9:=av;simp at h9;omega
  refine zzs (zzp ?_)
  refine zzd (sw_pubA (r:=3) (t:=3) [3] xw xj zq zq xj (fun cH ft e6 dR d1 bR=>?_))
  refine sw_pubA (r:=4) (t:=4) [4] xw xj zq zq xj (fun dd eJ b6 dY dQ bw=>?_)
  refine zzf (sy_fun 62 [.pointer (some ⟨cH,0,none⟩),.pointer (some ⟨dd,0,none⟩)] ?_)
  refine zza 63 (zI k) (zzg 64 148 _ fun _ _ bJ cA=>qym (k_irrCos (k:=k) cA ((b6.trans bJ).cells bR) (bJ.cells bw) hq0 xq xq xq (hG r xq xq xq) bT xq) ?_)
  rintro _ fE fU ⟨aG,aN,rfl,c1,dk⟩
  refine zzj ⟨57,aG.cs++aN.cs⟩ ty57 ?_
  refine zzb (zzo (ret0 [.agg #[.bool aG.s,aG.m.v,aG.d.v,.bool aN.s,aN.m.v,aN.d.v]] ⟨zzr ty57 zze,trivial⟩ fun fD be=>?_))
  have hc:=(cosV_lo (b:=k) hr (by have h9:=qyf aa;omega)).trans (cosA_g (r:=r) (q:=q) (b:=k) (by have h9:=af;simp at h9;omega) (by have h9:=ao;simp at h9;omega) (by have h9:=av;simp at h9;omega))
  refine ⟨aG,aN,rfl,RatN.more (K:=70) ?_ xq,RatN.more (K:=70) ?_ xq⟩
  ·rw[hc];exact (c1.ext be)
  rw[hc];exact (dk.ext be)
 have qhb11:=qyf a5
 refine zzs (zzp ?_)
 refine zzd (sq9 (zzi 16 (zI (Int.tmod p (2*(q:Int)))) ty3 zzl (zzi 17 (zI q) ty3 zzl (zza 18 (zB (decide ((q:Int)<(Int.tmod p (2*(q:Int)))))) (zzb (zzu (b:=decide ((q:Int)<(Int.tmod p (2*(q:Int))))) xj (fun aV=>?_) (fun aV=>?_)))))))
 ·have qhb205:=qyt aV
  refine zzf (zzi 19 (zI q) ty3 zzl (qwi 20 ((2:Int)*(q:Int)) (2*q:Nat) xz (zzi 21 (zI (Int.tmod p (2*(q:Int)))) ty3 zzl (zyq 22 (x:=zI (IntKind.i64.wrap (((2*q:Nat):Int) - (Int.tmod p (2*(q:Int)))))) (zI (((2*q:Nat):Int) - (Int.tmod p (2*(q:Int))))) yw (zzj ⟨3,[.int .i64 (((2*q:Nat):Int) - (Int.tmod p (2*(q:Int))))]⟩ ty3 ?_)))))
  refine zzb (zzd (zzd ?_))
  have hfold:(((2*q:Nat):Int) - (Int.tmod p (2*(q:Int))))=((fold p q:Nat):Int):=by unfold fold;dsimp only;split<;>omega
  rw[hfold]
  have hfl:=fold_le p q hq0
  obtain ⟨r,hr⟩:∃r,fold p q=r:=⟨_,rfl⟩
  rw[hr] at hfl ⊢
  clear hfold
  refine zzf (zzi 23 (zI r) ty3 zzl (qwi 24 ((2:Int)*(r:Int)) (2*r:Nat) xz (zzi 25 (zI q) ty3 zzl (zza 26 (zB (decide ((q:Int)<((2*r:Nat):Int)))) (zzb (zzu (b:=decide ((q:Int)<((2*r:Nat):Int))) xj (fun ac=>?_) (fun ac=>?_)))))))
  ·have qhb206:=qyt ac
   have hb9:=ac
   refine sq9 (zzi 27 (zI q) ty3 zzl (zzi 28 (zI r) ty3 zzl (qwi 29 ((q:Int) - (r:Int)) (q - r:Nat) xz (zzi 30 (zI q) ty3 zzl (zza 31 (zI k) (zzg 32 90 _ fun _ _ _ dC=>qym ((show Calls _ _ #[.int .i64 (q - r:Nat),.int .i64 q,.int .i64 k] _ _ from (by have h9:=k_cosA (p:=((q - r:Nat):Int)) (q:=q) (k:=k) dC hq0 hq2 hG0 xq xq hk (by rw[fold_id xq];have h8:=qyt hb9;omega);rw[fold_id xq] at h9;exact h9))) ?_))))))
   rintro _ ej fd ⟨bE,bf,rfl,dy,cv⟩
   refine zzk 7 ⟨57,zw6⟩ (zzj ⟨57,bE.cs++bf.cs⟩ ty57 ?_)
   refine zzb (zzd (zzz [0,1,3,0,8,31,63,127] [(0,[]),(1,[]),(3,[]),(4,[]),(2,[]),(5,[]),(6,[]),(7,[])] xj xj (zza 33 (.adr 7 3) (zzi 34 (.v (bf.v)) ty28 zze (zza 36 (.adr 7 0) (zzi 37 (.v (bE.v)) ty28 zze (zzg 35 145 _ fun _ _ bL c5=>qym (k_ratNeg c5 (cv.ext bL).raw xq) ?_)))))))
   rintro _ fu dM ⟨ai,rfl,dr⟩
   refine zzg 38 145 _ fun _ _ bc cB=>qym (k_ratNeg cB (dy.ext (bL.t (dM.t bc))).raw xq) ?_
   rintro _ e0 cg ⟨ah,rfl,cl⟩
   refine zza 39 (.v (.agg #[.bool ai.s,ai.m.v,ai.d.v,.bool ah.s,ah.m.v,ah.d.v])) (zzj ⟨57,ai.cs++ah.cs⟩ ty57 ?_)
   refine zzc 65 [(6,.adr 6 0)] [(6,⟨57,ai.cs++ah.cs⟩)] (zzo (zzw (ret0 [.agg #[.bool ai.s,ai.m.v,ai.d.v,.bool ah.s,ah.m.v,ah.d.v]] ⟨zzr ty57 zze,trivial⟩ fun e4 bj=>?_)))
   have hc:=cosV_hi (b:=k) hr (by have h9:=qyt ac;omega)
   refine ⟨ai,ah,rfl,RatN.more (K:=80) ?_ xq,RatN.more (K:=80) ?_ xq⟩
   ·rw[hc];exact (dr.ext (bc.t (cg.t bj)))
   rw[hc];exact (cl.ext bj)
  have qhb206:=qyf ac
  refine zzs (zzp ?_)
  refine zzd (zzt (sq9 (zzi 41 (zI r) ty3 zzl (zza 42 (zB ((r:Int)==0)) (zza 40 (zB ((r:Int)==0)) (zzb (zzu (b:=(r:Int)==0) xj (fun ad=>?_) (fun ad=>?_))))))))
  ·have a2:(r:Int)=0:=by simpa using ad
   refine sq9 (zzg 43 23 _ fun _ _ _ da=>qym (k_ratOf da (z:=1) xq xq) ?_)
   rintro _ f4 fn ⟨ec,rfl,dD⟩
   refine zza 44 (zI k) (zzg 45 146 _ fun _ _ b8 cb=>qym (k_exactly (k:=k) cb (dD.ext b8) xq xq) ?_)
   rintro _ eE f5 ⟨aQ,aP,rfl,cm,dO⟩
   refine zzj ⟨57,aQ.cs++aP.cs⟩ ty57 ?_
   refine zzb (zzo (zyu (zzw (ret0 [.agg #[.bool aQ.s,aQ.m.v,aQ.d.v,.bool aP.s,aP.m.v,aP.d.v]] ⟨zzr ty57 zze,trivial⟩ fun eN bK=>?_))))
   have hc:=(cosV_lo (b:=k) hr (by have h9:=qyf ac;omega)).trans (cosA_0 (r:=r) (q:=q) (b:=k) (by have h9:=ad;simp at h9;omega))
   refine ⟨aQ,aP,rfl,RatN.more (K:=80) ?_ xq,RatN.more (K:=80) ?_ xq⟩
   ·rw[hc];exact (cm.ext bK)
   rw[hc];exact (dO.ext bK)
  have a2:¬((r:Int)=0):=by simpa using ad
  refine sq9 (zzi 47 (zI r) ty3 zzl (qwi 48 ((2:Int)*(r:Int)) (2*r:Nat) xz (zzi 49 (zI q) ty3 zzl (zza 50 (zB (((2*r:Nat):Int)==(q:Int))) (zza 46 (zB (((2*r:Nat):Int)==(q:Int))) (zzb (zzu (b:=((2*r:Nat):Int)==(q:Int)) xj (fun ap=>?_) (fun ap=>?_))))))))
  ·refine sq9 (zzg 51 23 _ fun _ _ _ ce=>qym (k_ratOf ce (z:=0) xq xq) ?_)
   rintro _ f9 eU ⟨ex,rfl,dA⟩
   refine zza 52 (zI k) (zzg 53 146 _ fun _ _ cJ dj=>qym (k_exactly (k:=k) dj (dA.ext cJ) xq xq) ?_)
   rintro _ eD fT ⟨aE,ax,rfl,cF,b0⟩
   refine zzj ⟨57,aE.cs++ax.cs⟩ ty57 ?_
   refine zzc 65 [(6,.adr 6 0)] [(6,⟨57,aE.cs++ax.cs⟩)] (zzo (zyu (zzw (ret0 [.agg #[.bool aE.s,aE.m.v,aE.d.v,.bool ax.s,ax.m.v,ax.d.v]] ⟨zzr ty57 zze,trivial⟩ fun e8 bS=>?_))))
   have hc:=(cosV_lo (b:=k) hr (by have h9:=qyf ac;omega)).trans (cosA_h (r:=r) (q:=q) (b:=k) (by have h9:=ad;simp at h9;omega) (by have h9:=ap;simp at h9;omega))
   refine ⟨aE,ax,rfl,RatN.more (K:=80) ?_ xq,RatN.more (K:=80) ?_ xq⟩
   ·rw[hc];exact (cF.ext bS)
   rw[hc];exact (b0.ext bS)
  have bV:¬2*r=q:=by have h9:=ap;simp at h9;omega
  refine sq9 (zzi 55 (zI r) ty3 zzl (qwi 56 ((3:Int)*(r:Int)) (3*r:Nat) xz (zzi 57 (zI q) ty3 zzl (zza 58 (zB (((3*r:Nat):Int)==(q:Int))) (zza 54 (zB (((3*r:Nat):Int)==(q:Int))) (zzc 65 [(2,zI k),(3,.adr 3 0),(4,.adr 4 0),(6,.adr 6 0),(54,zB (((3*r:Nat):Int)==(q:Int)))] [(3,⟨3,[.int .i64 r]⟩),(4,⟨3,[.int .i64 q]⟩),(6,⟨57,zw6⟩)] (zzu (b:=((3*r:Nat):Int)==(q:Int)) xj (fun au=>?_) (fun au=>?_))))))))
  ·refine sq9 (zzg 59 147 _ fun _ _ _ cT=>qym (k_ratFrac cT (a:=1) (b:=2) xq xq xq xq) ?_)
   rintro _ eG fK ⟨ei,rfl,dq⟩
   refine zza 60 (zI k) (zzg 61 146 _ fun _ _ dp cw=>qym (k_exactly (k:=k) cw (dq.ext dp) xq xq) ?_)
   rintro _ f6 fq ⟨aO,aM,rfl,cD,dI⟩
   refine zzj ⟨57,aO.cs++aM.cs⟩ ty57 ?_
   refine zzb (zzo (zyu (zzw (ret0 [.agg #[.bool aO.s,aO.m.v,aO.d.v,.bool aM.s,aM.m.v,aM.d.v]] ⟨zzr ty57 zze,trivial⟩ fun e7 bN=>?_))))
   have hc:=(cosV_lo (b:=k) hr (by have h9:=qyf ac;omega)).trans (cosA_3 (r:=r) (q:=q) (b:=k) (by have h9:=ad;simp at h9;omega) (by have h9:=ap;simp at h9;omega) (by have h9:=au;simp at h9;omega))
   refine ⟨aO,aM,rfl,RatN.more (K:=80) ?_ xq,RatN.more (K:=80) ?_ xq⟩
   ·rw[hc];exact (cD.ext bN)
   rw[hc];exact (dI.ext bN)
  have bX:¬3*r=q:=by have h9:=au;simp at h9;omega
  refine zzs (zzp ?_)
  refine zzd (sw_pubA (r:=3) (t:=3) [3] xw xj zq zq xj (fun c8 fM ek d4 d7 bP=>?_))
  refine sw_pubA (r:=4) (t:=4) [4] xw xj zq zq xj (fun dm eX b4 d0 dP bI=>?_)
  refine zzf (sy_fun 62 [.pointer (some ⟨c8,0,none⟩),.pointer (some ⟨dm,0,none⟩)] ?_)
  refine zza 63 (zI k) (zzg 64 148 _ fun _ _ bq cP=>qym (k_irrCos (k:=k) cP ((b4.trans bq).cells bP) (bq.cells bI) hq0 xq xq xq (hG r xq xq xq) bT xq) ?_)
  rintro _ fr ew ⟨aU,aH,rfl,cL,dN⟩
  refine zzj ⟨57,aU.cs++aH.cs⟩ ty57 ?_
  refine zzb (zzo (ret0 [.agg #[.bool aU.s,aU.m.v,aU.d.v,.bool aH.s,aH.m.v,aH.d.v]] ⟨zzr ty57 zze,trivial⟩ fun e3 bC=>?_))
  have hc:=(cosV_lo (b:=k) hr (by have h9:=qyf ac;omega)).trans (cosA_g (r:=r) (q:=q) (b:=k) (by have h9:=ad;simp at h9;omega) (by have h9:=ap;simp at h9;omega) (by have h9:=au;simp at h9;omega))
  refine ⟨aU,aH,rfl,RatN.more (K:=70) ?_ xq,RatN.more (K:=70) ?_ xq⟩
  ·rw[hc];exact (cL.ext bC)
  rw[hc];exact (dN.ext bC)
 have qhb205:=qyf aV
 refine zzs (zzp ?_)
 refine zzd (zzd ?_)
 have hfold:(Int.tmod p (2*(q:Int)))=((fold p q:Nat):Int):=by unfold fold;dsimp only;split<;>omega
 rw[hfold]
 have hfl:=fold_le p q hq0
 obtain ⟨r,hr⟩:∃r,fold p q=r:=⟨_,rfl⟩
 rw[hr] at hfl ⊢
 clear hfold
 refine zzf (zzi 23 (zI r) ty3 zzl (qwi 24 ((2:Int)*(r:Int)) (2*r:Nat) xz (zzi 25 (zI q) ty3 zzl (zza 26 (zB (decide ((q:Int)<((2*r:Nat):Int)))) (zzb (zzu (b:=decide ((q:Int)<((2*r:Nat):Int))) xj (fun ab=>?_) (fun ab=>?_)))))))
 ·have qhb302:=qyt ab
  have hb9:=ab
  refine sq9 (zzi 27 (zI q) ty3 zzl (zzi 28 (zI r) ty3 zzl (qwi 29 ((q:Int) - (r:Int)) (q - r:Nat) xz (zzi 30 (zI q) ty3 zzl (zza 31 (zI k) (zzg 32 90 _ fun _ _ _ cO=>qym ((show Calls _ _ #[.int .i64 (q - r:Nat),.int .i64 q,.int .i64 k] _ _ from (by have h9:=k_cosA (p:=((q - r:Nat):Int)) (q:=q) (k:=k) cO hq0 hq2 hG0 xq xq hk (by rw[fold_id xq];have h8:=qyt hb9;omega);rw[fold_id xq] at h9;exact h9))) ?_))))))
  rintro _ fJ fa ⟨bx,ba,rfl,cz,cj⟩
  refine zzk 7 ⟨57,zw6⟩ (zzj ⟨57,bx.cs++ba.cs⟩ ty57 ?_)
  refine zzb (zzd (zzz [0,1,3,0,8,31,63,127] [(0,[]),(1,[]),(3,[]),(4,[]),(2,[]),(5,[]),(6,[]),(7,[])] xj xj (zza 33 (.adr 7 3) (zzi 34 (.v (ba.v)) ty28 zze (zza 36 (.adr 7 0) (zzi 37 (.v (bx.v)) ty28 zze (zzg 35 145 _ fun _ _ bF ca=>qym (k_ratNeg ca (cj.ext bF).raw xq) ?_)))))))
  rintro _ fp ds ⟨am,rfl,c6⟩
  refine zzg 38 145 _ fun _ _ bb cV=>qym (k_ratNeg cV (cz.ext (bF.t (ds.t bb))).raw xq) ?_
  rintro _ f1 cM ⟨ag,rfl,cq⟩
  refine zza 39 (.v (.agg #[.bool am.s,am.m.v,am.d.v,.bool ag.s,ag.m.v,ag.d.v])) (zzj ⟨57,am.cs++ag.cs⟩ ty57 ?_)
  refine zzc 65 [(6,.adr 6 0)] [(6,⟨57,am.cs++ag.cs⟩)] (zzo (zzw (ret0 [.agg #[.bool am.s,am.m.v,am.d.v,.bool ag.s,ag.m.v,ag.d.v]] ⟨zzr ty57 zze,trivial⟩ fun et bv=>?_)))
  have hc:=cosV_hi (b:=k) hr (by have h9:=qyt ab;omega)
  refine ⟨am,ag,rfl,RatN.more (K:=80) ?_ xq,RatN.more (K:=80) ?_ xq⟩
  ·rw[hc];exact (c6.ext (bb.t (cM.t bv)))
  rw[hc];exact (cq.ext bv)
 have qhb302:=qyf ab
 refine zzs (zzp ?_)
 refine zzd (zzt (sq9 (zzi 41 (zI r) ty3 zzl (zza 42 (zB ((r:Int)==0)) (zza 40 (zB ((r:Int)==0)) (zzb (zzu (b:=(r:Int)==0) xj (fun ae=>?_) (fun ae=>?_))))))))
 ·have a3:(r:Int)=0:=by simpa using ae
  refine sq9 (zzg 43 23 _ fun _ _ _ dJ=>qym (k_ratOf dJ (z:=1) xq xq) ?_)
  rintro _ eb fP ⟨eT,rfl,dv⟩
  refine zza 44 (zI k) (zzg 45 146 _ fun _ _ du cW=>qym (k_exactly (k:=k) cW (dv.ext du) xq xq) ?_)
  rintro _ gb ez ⟨aX,aI,rfl,dF,cQ⟩
  refine zzj ⟨57,aX.cs++aI.cs⟩ ty57 ?_
  refine zzb (zzo (zyu (zzw (ret0 [.agg #[.bool aX.s,aX.m.v,aX.d.v,.bool aI.s,aI.m.v,aI.d.v]] ⟨zzr ty57 zze,trivial⟩ fun fH bB=>?_))))
  have hc:=(cosV_lo (b:=k) hr (by have h9:=qyf ab;omega)).trans (cosA_0 (r:=r) (q:=q) (b:=k) (by have h9:=ae;simp at h9;omega))
  refine ⟨aX,aI,rfl,RatN.more (K:=80) ?_ xq,RatN.more (K:=80) ?_ xq⟩
  ·rw[hc];exact (dF.ext bB)
  rw[hc];exact (cQ.ext bB)
 have a3:¬((r:Int)=0):=by simpa using ae
 refine sq9 (zzi 47 (zI r) ty3 zzl (qwi 48 ((2:Int)*(r:Int)) (2*r:Nat) xz (zzi 49 (zI q) ty3 zzl (zza 50 (zB (((2*r:Nat):Int)==(q:Int))) (zza 46 (zB (((2*r:Nat):Int)==(q:Int))) (zzb (zzu (b:=((2*r:Nat):Int)==(q:Int)) xj (fun an=>?_) (fun an=>?_))))))))
 ·refine sq9 (zzg 51 23 _ fun _ _ _ db=>qym (k_ratOf db (z:=0) xq xq) ?_)
  rintro _ fs fe ⟨ep,rfl,ch⟩
  refine zza 52 (zI k) (zzg 53 146 _ fun _ _ cn cr=>qym (k_exactly (k:=k) cr (ch.ext cn) xq xq) ?_)
  rintro _ fA fW ⟨aW,aJ,rfl,cp,b7⟩
  refine zzj ⟨57,aW.cs++aJ.cs⟩ ty57 ?_
  refine zzb (zzo (zyu (zzw (ret0 [.agg #[.bool aW.s,aW.m.v,aW.d.v,.bool aJ.s,aJ.m.v,aJ.d.v]] ⟨zzr ty57 zze,trivial⟩ fun e2 bi=>?_))))
  have hc:=(cosV_lo (b:=k) hr (by have h9:=qyf ab;omega)).trans (cosA_h (r:=r) (q:=q) (b:=k) (by have h9:=ae;simp at h9;omega) (by have h9:=an;simp at h9;omega))
  refine ⟨aW,aJ,rfl,RatN.more (K:=80) ?_ xq,RatN.more (K:=80) ?_ xq⟩
  ·rw[hc];exact (cp.ext bi)
  rw[hc];exact (b7.ext bi)
 have bW:¬2*r=q:=by have h9:=an;simp at h9;omega
 refine sq9 (zzi 55 (zI r) ty3 zzl (qwi 56 ((3:Int)*(r:Int)) (3*r:Nat) xz (zzi 57 (zI q) ty3 zzl (zza 58 (zB (((3*r:Nat):Int)==(q:Int))) (zza 54 (zB (((3*r:Nat):Int)==(q:Int))) (zzb (zzu (b:=((3*r:Nat):Int)==(q:Int)) xj (fun ar=>?_) (fun ar=>?_))))))))
 ·refine sq9 (zzg 59 147 _ fun _ _ _ dw=>qym (k_ratFrac dw (a:=1) (b:=2) xq xq xq xq) ?_)
  rintro _ el fI ⟨f2,rfl,b1⟩
  refine zza 60 (zI k) (zzg 61 146 _ fun _ _ cU dt=>qym (k_exactly (k:=k) dt (b1.ext cU) xq xq) ?_)
  rintro _ fS d8 ⟨aw,ay,rfl,cc,cK⟩
  refine zzj ⟨57,aw.cs++ay.cs⟩ ty57 ?_
  refine zzc 65 [(6,.adr 6 0)] [(6,⟨57,aw.cs++ay.cs⟩)] (zzo (zyu (zzw (ret0 [.agg #[.bool aw.s,aw.m.v,aw.d.v,.bool ay.s,ay.m.v,ay.d.v]] ⟨zzr ty57 zze,trivial⟩ fun ff bQ=>?_))))
  have hc:=(cosV_lo (b:=k) hr (by have h9:=qyf ab;omega)).trans (cosA_3 (r:=r) (q:=q) (b:=k) (by have h9:=ae;simp at h9;omega) (by have h9:=an;simp at h9;omega) (by have h9:=ar;simp at h9;omega))
  refine ⟨aw,ay,rfl,RatN.more (K:=80) ?_ xq,RatN.more (K:=80) ?_ xq⟩
  ·rw[hc];exact (cc.ext bQ)
  rw[hc];exact (cK.ext bQ)
 have bU:¬3*r=q:=by have h9:=ar;simp at h9;omega
 refine zzs (zzp ?_)
 refine zzd (sw_pubA (r:=3) (t:=3) [3] xw xj zq zq xj (fun ct fi fh d2 dT bn=>?_))
 refine sw_pubA (r:=4) (t:=4) [4] xw xj zq zq xj (fun dn en b3 d3 dS br=>?_)
 refine zzf (sy_fun 62 [.pointer (some ⟨ct,0,none⟩),.pointer (some ⟨dn,0,none⟩)] ?_)
 refine zza 63 (zI k) (zzg 64 148 _ fun _ _ bH cC=>qym (k_irrCos (k:=k) cC ((b3.trans bH).cells bn) (bH.cells br) hq0 xq xq xq (hG r xq xq xq) bT xq) ?_)
 rintro _ ea fV ⟨aA,aC,rfl,cG,df⟩
 refine zzj ⟨57,aA.cs++aC.cs⟩ ty57 ?_
 refine zzc 65 [(6,.adr 6 0)] [(6,⟨57,aA.cs++aC.cs⟩)] (zzo (ret0 [.agg #[.bool aA.s,aA.m.v,aA.d.v,.bool aC.s,aC.m.v,aC.d.v]] ⟨zzr ty57 zze,trivial⟩ fun e9 bl=>?_))
 have hc:=(cosV_lo (b:=k) hr (by have h9:=qyf ab;omega)).trans (cosA_g (r:=r) (q:=q) (b:=k) (by have h9:=ae;simp at h9;omega) (by have h9:=an;simp at h9;omega) (by have h9:=ar;simp at h9;omega))
 refine ⟨aA,aC,rfl,RatN.more (K:=70) ?_ xq,RatN.more (K:=70) ?_ xq⟩
 ·rw[hc];exact (cG.ext bl)
 rw[hc];exact (df.ext bl)
theorem k_ePermitted {u w:World} {n:Int} (d:Dat u w):qyc 83 #[.int .i64 n] w (Post u w fun v _=>v=.bool (decide (0≤n∧n≤256))):=by
 refine zzm Tryz.func83 rfl Tryz.ntmps83 Tryz.results83 d ?_
 refine sq9 (zza 2 (zB false) (zzb (sq9 (zza 3 (zI n) (zza 4 (zB (decide ((0:Int)≤n))) ?_)))))
 rcases Bool.eq_false_or_eq_true (decide ((0:Int)≤n)) with hs11 | hs11
 ·refine qbi 5 hs11 ?_
  have qhs11:=qyt hs11
  refine zza 6 (zI n) ?_ (hw:=w1 2 true 5)
  refine zza 7 (zB (decide (n≤256))) ?_ (hw:=w1 2 true 5)
  refine zza 8 (zB (decide (n≤256))) (zza 2 (zB (decide (n≤256))) (zzb (zzo (ret0 [.bool (decide (n≤256))] ⟨zzq,trivial⟩ fun u12 e13=>?_))))
  show Value.bool _=Value.bool _
  congr 1
  symm
  have h9:=qyt hs11
  by_cases h8:n≤256
  ·rw[decide_eq_true h8];exact decide_eq_true ⟨h9,h8⟩
  rw[decide_eq_false h8];exact decide_eq_false (fun h=>h8 h.2)
 refine qbi 5 hs11 ?_
 have qhs11:=qyf hs11
 refine zzn 6 (uw 2 true false 5) (zzn 7 (uw 2 true false 5) (zza 8 (zB false) (zza 2 (zB false) (zzb (zzo (ret0 [.bool false] ⟨zzq,trivial⟩ fun u14 e15=>?_))))))
 show Value.bool _=Value.bool _
 congr 1
 symm
 exact decide_eq_false (fun h=>absurd h.1 (qyf hs11))
theorem k_CosPiG {u w:World} {p:Int} {q k:Nat} (d:Dat u w) (hq1:1≤q) (hq2:q≤1000) (hp0 : -1000000≤p) (hp1:p≤1000000) (hk:k≤256) (hG:GapQ q k):qyc 30 #[.int .i64 p,.int .i64 (q:Int),.int .i64 (k:Int)] w (Post u w fun v u'=>∃r1 r2:RL,v=.tuple #[IV r1 r2,.int .i64 0]∧RatN u' r1 ((cosV p q k).1) 80∧RatN u' r2 ((cosV p q k).2) 80):=by
 refine zzm Tryz.func30 rfl Tryz.ntmps30 Tryz.results30 d ?_
 refine sq9 (zzk 6 ⟨57,zw6⟩ (zza 7 (zI 0) (zzb (zzd (sq9 (zza 8 (zI k) (zzg 9 83 _ fun _ _ _ ad=>qym (k_ePermitted (n:=(k:Int)) ad) ?_)))))))
 rintro _ u12 g13 rfl
 refine zza 10 (zB (!(decide (0≤(k:Int)∧(k:Int)≤256)))) (zyq 11 (x:=zB (!(decide (0≤(k:Int)∧(k:Int)≤256)))) (zB false) (by rw[show (!(decide (0≤(k:Int)∧(k:Int)≤256)))=false from (by rw[decide_eq_true xq];rfl)]) (zza 12 (zI q) ?_ (hw:=w1 3 false 11)))
 refine zza 13 (zB (decide ((q:Int)<1))) ?_ (hw:=w1 3 false 11)
 refine zza 14 (zB (decide ((q:Int)<1))) (zyq 15 (x:=zB (decide ((q:Int)<1))) (zB false) (by rw[show (decide ((q:Int)<1))=false from decide_eq_false xq]) (zza 16 (zI q) ?_ (hw:=w1 7 false 15)))
 refine zza 17 (zB (decide ((1000:Int)<(q:Int)))) ?_ (hw:=w1 7 false 15)
 refine zza 18 (zB (decide ((1000:Int)<(q:Int)))) (zyq 19 (x:=zB (decide ((1000:Int)<(q:Int)))) (zB false) (by rw[show (decide ((1000:Int)<(q:Int)))=false from decide_eq_false xq]) (zza 20 (zI p) ?_ (hw:=w1 11 false 19)))
 refine zza 21 (zB (decide (p<(-1000000)))) ?_ (hw:=w1 11 false 19)
 refine zza 22 (zB (decide (p<(-1000000)))) (zyq 23 (x:=zB (decide (p<(-1000000)))) (zB false) (by rw[show (decide (p<(-1000000)))=false from decide_eq_false xq]) (zza 24 (zI p) ?_ (hw:=w1 15 false 23)))
 refine zza 25 (zB (decide ((1000000:Int)<p))) ?_ (hw:=w1 15 false 23)
 refine zza 26 (zB (decide ((1000000:Int)<p))) (zzb (zzu (b:=decide ((1000000:Int)<p)) xj (fun hb=>?_) (fun hb=>?_)))
 ·exact absurd hb (by rw[show (decide ((1000000:Int)<p))=false from decide_eq_false xq];decide)
 clear hb
 refine zzs (zzp ?_)
 refine sq9 (zza 28 (zI p) (zza 29 (zI q) (zza 30 (zI k) (zzg 31 90 _ fun _ _ _ ae=>qym (k_cosine (p:=p) (q:=q) (k:=k) ae xq xq hG xq xq xq) ?_))))
 rintro _ u24 g25 ⟨aa,ab,rfl,af,ag⟩
 refine zzj ⟨57,aa.cs++ab.cs⟩ ty57 ?_
 refine zza 7 (zI 0) (zzb (zzo (ret0 [.agg #[.bool aa.s,aa.m.v,aa.d.v,.bool ab.s,ab.m.v,ab.d.v],.int .i64 0] ⟨zzr ty57 zze,zzq,trivial⟩ fun u27 ac=>?_)))
 exact ⟨aa,ab,rfl,RatN.more (af.ext ac) xq,RatN.more (ag.ext ac) xq⟩
end Go.Proofs.YtedobdigeeflcaaGreat
namespace Go.Proofs.YtedobdigeeflcaaGreat
open Nt
namespace Nt
def irt (n:Nat):Nat→Nat
 | 0=>0
 | N+1=>if (irt n N+1)^n≤N+1 then irt n N+1 else irt n N
theorem irt_ok {n:Nat} (hn:1≤n):∀N,irt n N^n≤N∧N<(irt n N+1)^n
 | 0=>⟨by show 0^n≤0;rw[Nat.zero_pow xq];exact Nat.le_refl _,Nat.pow_pos xq⟩
 | N+1=>by
  obtain ⟨h1,h2⟩:=irt_ok hn N
  have h3:=Nat.pow_lt_pow_left (show irt n N+1<irt n N+1+1 by omega) (show n≠0 by omega)
  unfold irt
  split
  ·exact ⟨by assumption,by omega⟩
  exact ⟨by omega,by omega⟩
theorem irt_uniq {n N r:Nat} (hn:1≤n) (h1:r^n≤N) (h2:N<(r+1)^n):r=irt n N:=by
 obtain ⟨k1,k2⟩:=irt_ok hn N
 have a:r<irt n N+1:=by
  rcases Nat.lt_or_ge r (irt n N+1) with h | h
  ·exact h
  have:=Nat.pow_le_pow_left h n;omega
 have b:irt n N<r+1:=by
  rcases Nat.lt_or_ge (irt n N) (r+1) with h | h
  ·exact h
  have:=Nat.pow_le_pow_left h n;omega
 omega
theorem bern (r s:Int) (hr:0≤r) (hs:0≤s):∀n:Nat,r^n*((n+1:Nat)*s - n*r)≤s^(n+1):=by
 intro n
 induction n with
 | zero=>simp;rw[Int.pow_succ,Int.pow_zero,Int.one_mul];exact Int.le_refl _
 | succ n ih =>
  have h1:=Int.mul_le_mul_of_nonneg_left ih hs
  have h2:0≤(n+1:Int)*r^n*((s - r)*(s - r)):=by
   refine Int.mul_nonneg (Int.mul_nonneg xq (Int.pow_nonneg hr)) ?_
   rcases Int.le_total 0 (s - r) with h | h
   ·exact Int.mul_nonneg h h
   exact Int.mul_nonneg_of_nonpos_of_nonpos h h
  have e1:s^(n+1+1)=s*s^(n+1):=by rw[Int.pow_succ,Int.mul_comm]
  have e2:r^(n+1)=r^n*r:=Int.pow_succ ..
  rw[e1,e2]
  refine Int.le_trans ?_ h1
  have e3:s*(r^n*(((n+1:Nat):Int)*s - (n:Int)*r)) - r^n*r*(((n+1+1:Nat):Int)*s - ((n+1:Nat):Int)*r)=(n+1:Int)*r^n*((s - r)*(s - r)):=by
   rw[Int.natCast_add,Int.natCast_add,Int.natCast_add]
   generalize r^n=R at *
   grind
  omega
theorem newton_ge {n N r s:Nat} (hr:0<r) (hs:s^(n+1)≤N):s≤(n*r+N / r^n) / (n+1):=by
 refine (Nat.le_div_iff_mul_le xq).2 ?_
 have hb:=bern (r:Int) (s:Int) xq xq n
 rcases Nat.lt_or_ge (n*r) ((n+1)*s) with h | h
 ·have h1:(n+1)*s - n*r≤N / r^n:=by
   refine (Nat.le_div_iff_mul_le (Nat.pow_pos hr)).2 (Nat.le_trans ?_ hs)
   have h2:((((n+1)*s - n*r)*r^n:Nat):Int)≤((s^(n+1):Nat):Int):=by
    rw[Int.natCast_mul,Int.natCast_sub (Nat.le_of_lt h),Int.natCast_mul,Int.natCast_mul,Int.natCast_pow,Int.natCast_pow,Int.mul_comm]
    exact hb
   exact Int.ofNat_le.1 h2
  have e:=Nat.mul_comm s (n+1)
  rw[e];omega
 have e:=Nat.mul_comm s (n+1)
 rw[e]
 exact Nat.le_trans h (Nat.le_add_right _ _)
theorem newton_end {n N r:Nat} (h:r≤(n*r+N / r^n) / (n+1)):r^(n+1)≤N:=by
 have h1:=(Nat.le_div_iff_mul_le xq).1 h
 rw[Nat.mul_add,Nat.mul_one,Nat.mul_comm r n] at h1
 have h2:r≤N / r^n:=by omega
 rcases Nat.eq_zero_or_pos r with h0 | h0
 ·rw[h0,Nat.zero_pow xq];omega
 have:=(Nat.le_div_iff_mul_le (Nat.pow_pos h0)).1 h2
 rw[Nat.pow_succ,Nat.mul_comm];exact this
theorem newton_done {n N r:Nat} (hr:irt (n+1) N≤r) (h:r≤(n*r+N / r^n) / (n+1)):r=irt (n+1) N:=by
 refine irt_uniq xq (newton_end h) ?_
 have:=(irt_ok (n:=n+1) xq N).2
 exact Nat.lt_of_lt_of_le this (Nat.pow_le_pow_left xq _)
theorem newton_start {n N B:Nat} (hn:1≤n) (h:N<2^B):irt n N≤2^((B+n - 1) / n):=by
 rcases Nat.lt_or_ge (2^((B+n - 1) / n)) (irt n N) with h1 | h1
 ·exfalso
  have h2:=(irt_ok hn N).1
  have h3:=Nat.pow_le_pow_left (Nat.le_of_lt h1) n
  rw[← Nat.pow_mul] at h3
  have h4:B≤(B+n - 1) / n*n:=by
   have h5:=Nat.div_add_mod (B+n - 1) n
   have h6:=Nat.mod_lt (B+n - 1) (show 0<n by omega)
   rw[Nat.mul_comm] at h5;omega
  have h7:=Nat.pow_le_pow_right (show 0<2 by decide) h4
  omega
 exact h1
theorem nw_ge {n N r:Nat} (hn:1≤n) (hr:0<r):irt n N≤(r*(n - 1)+N / r^(n - 1)) / n:=by
 obtain ⟨m,rfl⟩:∃m,n=m+1:=⟨n - 1,by omega⟩
 have:=newton_ge (n:=m) hr (irt_ok (n:=m+1) xq N).1
 rw[Nat.mul_comm r];exact this
theorem nw_done {n N r:Nat} (hn:1≤n) (h1:irt n N≤r) (h:r≤(r*(n - 1)+N / r^(n - 1)) / n):r=irt n N:=by
 obtain ⟨m,rfl⟩:∃m,n=m+1:=⟨n - 1,by omega⟩
 rw[Nat.mul_comm r] at h
 exact newton_done h1 h
theorem irt_pos {n N:Nat} (hn:1≤n) (h:1≤N):1≤irt n N:=by
 rcases Nat.eq_zero_or_pos (irt n N) with h0 | h0
 ·have:=(irt_ok hn N).2
  rw[h0,Nat.zero_add,Nat.one_pow] at this
  omega
 exact h0
theorem cmp_geN (a b:Nat):decide ((0:Int)≤cmpS (a:Int) (b:Int))=decide (b≤a):=by
 rw[decide_eq_decide]
 rcases cmp_range (a:Int) (b:Int) with ⟨e,h⟩ | ⟨e,h⟩ | ⟨e,h⟩<;>rw[e]<;>omega
def BitI (n N k out:Nat):Prop:=out^n≤N∧N<(out+2^k)^n
theorem BitI.start {n N B:Nat} (hn:1≤n) (h:N<2^B):BitI n N (B / n+1) 0:=by
 refine ⟨by rw[Nat.zero_pow xq];omega,?_⟩
 rw[Nat.zero_add,← Nat.pow_mul]
 refine Nat.lt_of_lt_of_le h (Nat.pow_le_pow_right yq ?_)
 have h5:=Nat.div_add_mod B n
 have h6:=Nat.mod_lt B (show 0<n by omega)
 rw[Nat.add_mul,Nat.mul_comm];omega
theorem BitI.yes {n N k out:Nat} (h:BitI n N (k+1) out) (h1:(out+2^k)^n≤N):BitI n N k (out+2^k):=by
 refine ⟨h1,?_⟩
 have h2:=h.2
 rw[Nat.pow_succ] at h2
 rwa [Nat.add_assoc,← Nat.mul_two]
theorem BitI.no {n N k out:Nat} (h:BitI n N (k+1) out) (h1:¬(out+2^k)^n≤N):BitI n N k out:=⟨h.1,by omega⟩
theorem BitI.done {n N out:Nat} (hn:1≤n) (h:BitI n N 0 out):out=irt n N:=irt_uniq hn h.1 h.2
end Nt
open Go.RowKit
namespace Nt
theorem dl_pow (A:Nat):∀n,dl (A^n)≤n*dl A+1
 | 0=>by rw[Nat.pow_zero,dl_one];omega
 | n+1=>by
  have h1:=dl_pow A n
  have h2:=dl_mul (A^n) A
  rw[Nat.pow_succ,Nat.add_mul];omega
theorem bitl_dl {N K:Nat} (h:dl N≤K):bitl N≤32*K:=by
 have h1:=dl_lt (x:=N)
 rcases Nat.eq_zero_or_pos N with h0 | h0
 ·subst h0
  have:bitl 0=0:=rfl
  omega
 have h2:=bitl_le h0
 have h3:pw (dl N)=((2^(32*dl N):Nat):Int):=by
  generalize dl N=k
  induction k with
  | zero=>rfl
  | succ k ih =>
   show 4294967296*pw k=_
   rw[ih,show 32*(k+1)=32*k+32 by omega,Nat.pow_add,Int.natCast_mul,Int.mul_comm]
   rfl
 rw[h3] at h1
 have h4:N<2^(32*dl N):=Int.ofNat_lt.1 h1
 have h5:2^(bitl N - 1)<2^(32*dl N):=by omega
 have h6:=(Nat.pow_lt_pow_iff_right (show 1<2 by decide)).1 h5
 omega
end Nt
section
variable {u u' w w':World} {x y:Sl} {N M K L s:Nat}
theorem k_natCut (d:Dat u w) (h:NatV u x N K) (hK:K≤500000000):qyc 135 #[x.v] w (Post u w fun v u'=>∃y:Sl,v=y.v∧NatN u' y N K):=by
 have hs:=h.size
 obtain ⟨a,a1,a2,a3,a4⟩:=h
 refine (zwj _ _ _ _ _ (a1.ext d.ext)).mono fun e w' ⟨he,hw⟩=>?_
 subst hw
 have hst:=zxs a2
 have e1:(Nt.val a).toNat=N:=by rw[a4];exact Int.toNat_natCast N
 rw[e1] at hst
 have hle:(strip a).length≤x.n:=by rw[← a1.1];exact zyi a
 have hx:=a1.upto (m:=(strip a).length) hle
 rw[← strip_take,hst] at hx
 rw[hst] at he
 exact ⟨_,over u w,he,over_dat d (Below.refl _ _),Below.refl _ _,over_grow (by rw[d.size];exact Nat.le_refl _),⟨x.a,(digits N).length,x.c⟩,rfl,⟨rfl,hx.ext (over_grow (by rw[d.size];exact Nat.le_refl _)).ext,hs⟩⟩
theorem k_natRaise (d:Dat u w) (h1:NatV u x N K) (hK:K≤500000000) (hs:s≤65536):qyc 139 #[x.v,.int .i64 (s:Int)] w (Post u w fun v u'=>∃x:Sl,v=x.v∧NatN u' x (N*2^s) (K+s / 32+1)):=by
 have hs1:=h1.size
 obtain ⟨a,a1,a2,a3,a4⟩:=h1
 refine (raise_any _ _ _ _ _ _ (a1.ext d.ext) a2 xq hs).mono fun e w' ⟨A',n',c',h⟩=>?_
 rw[a4] at h
 exact post_nat d (nat_fits h (by simp[Int.natCast_mul,Int.natCast_pow])) (dl_shift hs1)
theorem k_natBitLen (d:Dat u w) (h:NatV u x N K) (hK:K≤500000000):qyc 138 #[x.v] w (Post u w fun v _=>v=.int .i64 ((bitl N:Nat):Int)):=by
 obtain ⟨a,a1,a2,a3,a4⟩:=h
 refine (BitLen_any _ _ _ _ _ (a1.ext d.ext) a2 xq).mono fun e w' ⟨he,hw⟩=>?_
 subst hw
 rw[a4,Int.toNat_natCast] at he
 exact post_below d he (Below.refl _ _)
theorem k_natDivide (d:Dat u w) (h1:NatN u x N K) (h2:NatN u y M L) (hM:0<M) (hK:K≤500000000) (hL:L≤500000000):qyc 141 #[x.v,y.v] w (Post u w fun v u'=>∃x y:Sl,v=.tuple #[x.v,y.v]∧NatN u' x (N / M) K∧NatN u' y (N%M) L):=by
 have hp:=h2.pos.2 hM
 obtain ⟨a1,a2,a3⟩:=h1
 obtain ⟨b1,b2,b3⟩:=h2
 refine (divide_any _ _ _ _ _ _ _ _ _ (a2.ext d.ext) (b2.ext d.ext) (zyk _) (zyk _) (zxn _) (zxn _) xq hp).mono fun e w' h=>?_
 rw[zyj,zyj] at h
 obtain ⟨A1,n1,c1,A2,n2,c2,rfl,f,g,hb⟩:=h
 rw[← Int.natCast_ediv,Int.toNat_natCast] at f
 rw[← Int.natCast_emod,Int.toNat_natCast] at g
 have hs:u.heap.size≤w'.heap.size:=by rw[d.size];exact hb.size
 exact ⟨_,over u w',rfl,over_dat d hb,hb,over_grow hs,⟨A1,n1,c1⟩,⟨A2,n2,c2⟩,rfl,over_nat f d.size hs (Nat.le_trans (dl_mono (Nat.div_le_self _ _)) a3),over_nat g d.size hs (Nat.le_trans (dl_mono (Nat.le_of_lt (Nat.mod_lt _ hM))) b3)⟩
end
theorem digit_data {u:World} {b D:Nat} (h:u.heap[b]? = some (.cells #[.int .u32 (D:Int)] 79 (0,0))) (hD:D<4294967296):NatV u ⟨some ⟨b,0,none⟩,1,1⟩ D 1:=by
 have hk:KBlk .u32 u b 79 [(D:Int)]:=h
 exact ⟨[(D:Int)],hk.slr_all rfl qyl (show 1≤maxLen by decide),Dig.cons xq Dig.nil,Nat.le_refl _,by simp[Nt.val]⟩
theorem digit_dataN {u:World} {b D:Nat} (h:u.heap[b]? = some (.cells #[.int .u32 (D:Int)] 79 (0,0))) (hD:D<4294967296) (h1:1≤D):NatN u ⟨some ⟨b,0,none⟩,1,1⟩ D 1:=by
 have hk:KBlk .u32 u b 79 [(D:Int)]:=h
 have e:digits D=[(D:Int)]:=by
  have h1:strip [(D:Int)]=[(D:Int)]:=by simp[strip];omega
  have h2:=zxs (l:=[(D:Int)]) (Dig.cons xq Dig.nil)
  rw[h1] at h2
  have h3:(Nt.val [(D:Int)]).toNat=D:=by simp[Nt.val]
  rw[h3] at h2
  exact h2.symm
 have e2:dl D=1:=by unfold dl;rw[e];rfl
 exact ⟨e2.symm,by rw[e];exact hk.slr_all rfl qyl (show 1≤maxLen by decide),by rw[e2];exact Nat.le_refl _⟩
theorem NatN.fit {u:World} {x:Sl} {N K L:Nat} (h:NatN u x N K) (k:dl N≤L):NatN u x N L:=⟨h.1,h.2.1,k⟩
namespace Nt
def PwI (A n m a r:Nat):Prop:=r*a^m=A^n∧(1≤A→1≤a∧1≤r)∧(A=0→a=0∧r≤1)
theorem PwI.start (A n:Nat):PwI A n n A 1:=⟨Nat.one_mul _,fun h=>⟨h,Nat.le_refl _⟩,fun h=>⟨h,Nat.le_refl _⟩⟩
theorem PwI.next {A n m a r a' r':Nat} (h:PwI A n m a r) (hm:1≤m) (hr:m%2=1∧r'=r*a∨¬m%2=1∧r'=r) (ha:1≤m / 2∧a'=a*a∨¬1≤m / 2∧a'=a):PwI A n (m / 2) a' r':=by
 obtain ⟨h1,h2,h3⟩:=h
 have hd:=Nat.div_add_mod m 2
 refine ⟨?_,fun hA=>?_,fun hA=>?_⟩
 ·rw[← h1]
  have e:a'^(m / 2)=a^(2*(m / 2)):=by
   rcases ha with ⟨_,rfl⟩ | ⟨h,rfl⟩
   ·rw[← Nat.pow_two,← Nat.pow_mul]
   have:m / 2=0:=by omega
   rw[this]
  rw[e]
  rcases hr with ⟨ho,rfl⟩ | ⟨ho,rfl⟩
  ·have:m=2*(m / 2)+1:=by omega
   conv=>rhs;rw[this,Nat.pow_succ]
   rw[Nat.mul_assoc,Nat.mul_comm a]
  have:2*(m / 2)=m:=by omega
  rw[this]
 ·obtain ⟨k1,k2⟩:=h2 hA
  have k3:=Nat.mul_le_mul k1 k1
  have k4:=Nat.mul_le_mul k2 k1
  rcases hr with ⟨_,rfl⟩ | ⟨_,rfl⟩<;>rcases ha with ⟨_,rfl⟩ | ⟨_,rfl⟩<;>omega
 obtain ⟨k1,k2⟩:=h3 hA
 subst k1
 rcases hr with ⟨_,rfl⟩ | ⟨_,rfl⟩<;>rcases ha with ⟨_,rfl⟩ | ⟨_,rfl⟩<;>simp<;>omega
theorem PwI.bd {A n m a r K:Nat} (h:PwI A n m a r) (hK:dl A≤K):dl r≤n*K+1∧(1≤m→dl a≤n*K+1):=by
 obtain ⟨h1,h2,h3⟩:=h
 have hp:=dl_pow A n
 have hk:=Nat.mul_le_mul_left n hK
 rcases Nat.eq_zero_or_pos A with h0 | h0
 ·obtain ⟨k1,k2⟩:=h3 h0
  have:=dl_mono k2
  rw[dl_one] at this
  subst k1
  rw[dl_zero]
  omega
 obtain ⟨k1,k2⟩:=h2 h0
 have e1:r≤A^n:=by
  rw[← h1];exact Nat.le_mul_of_pos_right _ (Nat.pow_pos k1)
 have e2:1≤m→a≤A^n:=fun hm=>by
  rw[← h1]
  refine Nat.le_trans ?_ (Nat.le_mul_of_pos_left _ k2)
  have:=Nat.pow_le_pow_right k1 hm
  rwa [Nat.pow_one] at this
 have f1:=dl_mono e1
 exact ⟨by omega,fun hm=>by have:=dl_mono (e2 hm);omega⟩
theorem PwI.done {A n a r:Nat} (h:PwI A n 0 a r):r=A^n:=by have:=h.1;rwa [Nat.pow_zero,Nat.mul_one] at this
end Nt
theorem k_natPower {u w:World} {x:Sl} {A n K:Nat} (d:Dat u w) (hx:NatN u x A K) (hn:n≤64) (hK:K≤1000000):qyc 142 #[x.v,.int .i64 (n:Int)] w (Post u w fun v u'=>∃y:Sl,v=y.v∧NatN u' y (A^n) (n*K+K+1)):=by
 have aj:dl A≤K:=hx.2.2
 have hnK:n*K≤64*1000000:=Nat.mul_le_mul hn hK
 refine zzm Tryz.func142 rfl Tryz.ntmps142 Tryz.results142 d ?_
 refine sq9 (zza 4 (.v (qyn)) (zzb (sq9 (zxx 6 ⟨79,[.int .u32 1]⟩ 1 (fun au aH aG aE=>?_)))))
 refine zza 5 (.v (.slice (some ⟨au,0,none⟩) 1 1)) (zzb (zzd (zzt (zyn (I:=fun ao S' u'=>∃ (m:Nat) (x1:Sl) (y1:Sl) (a:Nat) (r:Nat),(ao=m)∧(PwI A n m a r)∧(m≤n)∧(S'=St.of 23 [(0,.v (x1.v)),(1,zI m),(5,.v (y1.v))] [])∧(Ext aH u')∧(NatN u' x1 a (n*K+K+1))∧(NatN u' y1 r (n*K+K+1))) (fun m S u1 u2 e h=>by obtain ⟨m,x1,y1,a,r,hm,p0,p1,hS,hE,f0,f1⟩:=h;exact ⟨m,x1,y1,a,r,hm,p0,p1,hS,hE.trans e,f0.ext e,f1.ext e⟩) _ yk ⟨n,x,(⟨some ⟨au,0,none⟩,1,1⟩:Sl),A,1,rfl,(PwI.start A n),xq,rfl,(Ext.refl _),(NatN.fit (hx.ext aG) xq),(NatN.more (one_data aE) xq)⟩ ?_))))
 rintro ao _ u15 ⟨m,x1,y1,a,r,aw,hI,hmn,rfl,al,f0,f1⟩
 refine zzd (sq9 (zza 7 (zI m) (zza 8 (zB (decide ((0:Int)<(m:Int)))) (zzb (zzu (b:=decide ((0:Int)<(m:Int))) xj (fun ae=>?_) (fun ae=>?_))))))
 ·have qhb16:=qyt ae
  refine zzs (zzp ?_)
  refine zzt (zzd (sq9 (zza 9 (zI m) (zza 10 (zI (Int.tmod (m:Int) 2)) (zza 11 (zB ((Int.tmod (m:Int) 2)==1)) (zzb (zzu (b:=(Int.tmod (m:Int) 2)==1) xj (fun af=>?_) (fun af=>?_))))))))
  ·have ad:Int.tmod (m:Int) 2=(m:Int)%2:=Int.tmod_eq_emod_of_nonneg xq
   have aa :  m%2=1:=by have h9:=af;rw[ad] at h9;simp at h9;omega
   refine zzf (zza 12 (.v (y1.v)) (zza 13 (.v (x1.v)) (zzg 14 81 _ fun _ _ ag aA=>qym (k_natMul aA (f1.ext ag).raw (f0.ext ag).raw xq xq) ?_)))
   rintro _ u21 ah ⟨am,rfl,aq⟩
   refine zza 5 (.v (am.v)) (zzb (sq9 (zza 15 (zI m) (sy_quo 16 (n:=(m:Int)) (m:=2) ((m / 2:Nat):Int) yq (by rw[Int.tdiv_eq_ediv_of_nonneg xq];exact (IntWalk.i64_in _ xq).trans xq) ?_))))
   refine zza 1 (zI (m / 2:Nat)) (zzb (sq9 (zza 17 (zI (m / 2:Nat)) (zza 18 (zB (decide ((0:Int)<((m / 2:Nat):Int)))) (zzb (zzu (b:=decide ((0:Int)<((m / 2:Nat):Int))) xj (fun ab=>?_) (fun ab=>?_)))))))
   ·have qhb24:=qyt ab
    refine zzf (zza 19 (.v (x1.v)) (zza 20 (.v (x1.v)) (zzg 21 81 _ fun _ _ ak aB=>qym (k_natMul aB (f0.ext (ag.t (ah.t ak))).raw (f0.ext (ag.t (ah.t ak))).raw xq xq) ?_)))
    rintro _ u28 an ⟨ar,rfl,aD⟩
    refine zza 0 (.v (ar.v)) (zzx ?_)
    have hnx:=hI.next xq (.inl ⟨aa,rfl⟩) (.inl ⟨by have h9:=qyt ab;omega,rfl⟩)
    have hbd:=hnx.bd aj
    have hbd1:=hbd.1
    refine ⟨_,?_,_,by exact zzv _ _ _,m / 2,ar,am,(a*a),(r*a),rfl,hnx,xq,rfl,(al.t (ag.t (ah.t (ak.t an.ext)))),(NatN.fit aD (by have h9:=hbd.2 (by have h9:=qyt ab;omega);omega)),(NatN.fit (aq.ext (ak.t an.ext)) xq)⟩
    omega
   have qhb24:=qyf ab
   refine zzs ?_
   have hnx:=hI.next xq (.inl ⟨aa,rfl⟩) (.inr ⟨by have h9:=qyf ab;omega,rfl⟩)
   have hbd:=hnx.bd aj
   have hbd1:=hbd.1
   refine ⟨_,?_,_,by exact zzv _ _ _,m / 2,x1,am,a,(r*a),rfl,hnx,xq,rfl,(al.t (ag.t ah.ext)),(f0.ext (ag.t ah.ext)),(NatN.fit aq xq)⟩
   omega
  have ad:Int.tmod (m:Int) 2=(m:Int)%2:=Int.tmod_eq_emod_of_nonneg xq
  have aa:¬m%2=1:=by have h9:=af;rw[ad] at h9;simp at h9;omega
  refine zzs (zzp ?_)
  refine sq9 (zza 15 (zI m) (sy_quo 16 (n:=(m:Int)) (m:=2) ((m / 2:Nat):Int) yq (by rw[Int.tdiv_eq_ediv_of_nonneg xq];exact (IntWalk.i64_in _ xq).trans xq) ?_))
  refine zza 1 (zI (m / 2:Nat)) (zzb (sq9 (zza 17 (zI (m / 2:Nat)) (zza 18 (zB (decide ((0:Int)<((m / 2:Nat):Int)))) (zzb (zzu (b:=decide ((0:Int)<((m / 2:Nat):Int))) xj (fun ac=>?_) (fun ac=>?_)))))))
  ·have qhb31:=qyt ac
   refine zzf (zza 19 (.v (x1.v)) (zza 20 (.v (x1.v)) (zzg 21 81 _ fun _ _ ai ay=>qym (k_natMul ay (f0.ext ai).raw (f0.ext ai).raw xq xq) ?_)))
   rintro _ u35 ap ⟨av,rfl,ax⟩
   refine zza 0 (.v (av.v)) (zzx ?_)
   have hnx:=hI.next xq (.inr ⟨aa,rfl⟩) (.inl ⟨by have h9:=qyt ac;omega,rfl⟩)
   have hbd:=hnx.bd aj
   have hbd1:=hbd.1
   refine ⟨_,?_,_,by exact zzv _ _ _,m / 2,av,y1,(a*a),r,rfl,hnx,xq,rfl,(al.t (ai.t ap.ext)),(NatN.fit ax (by have h9:=hbd.2 (by have h9:=qyt ac;omega);omega)),(NatN.fit (f1.ext (ai.t ap.ext)) xq)⟩
   omega
  have qhb31:=qyf ac
  refine zzs ?_
  have hnx:=hI.next xq (.inr ⟨aa,rfl⟩) (.inr ⟨by have h9:=qyf ac;omega,rfl⟩)
  have hbd:=hnx.bd aj
  have hbd1:=hbd.1
  refine ⟨_,?_,_,by exact zzv _ _ _,m / 2,x1,y1,a,r,rfl,hnx,xq,rfl,al,f0,(NatN.fit f1 xq)⟩
  omega
 have qhb16:=qyf ae
 refine zyc (zzp (sq9 (zza 22 (.v (y1.v)) (zza 4 (.v (y1.v)) (zzb (zzo (ret0 [y1.v] ⟨zzq,trivial⟩ fun u38 aC=>?_)))))))
 have aF:m=0:=by have h9:=qyf ae;omega
 subst aF
 have hd:=hI.done
 subst hd
 exact ⟨y1,rfl,(f1.ext aC)⟩
theorem k_natRoot {u w:World} {x:Sl} {N n K:Nat} (d:Dat u w) (hx:NatV u x N K) (hn1:1≤n) (hn:n≤64) (hK:K≤1000):qyc 87 #[x.v,.int .i64 (n:Int)] w (Post u w fun v u'=>∃y:Sl,v=.tuple #[y.v,.int .i64 0]∧NatN u' y (irt n N) (K+3)):=by
 have hB:bitl N≤32*K:=bitl_dl hx.size
 have hdv:=Nat.div_le_self (bitl N+n - 1) n
 obtain ⟨s,hs⟩:∃s,(bitl N+n - 1) / n=s:=⟨_,rfl⟩
 rw[hs] at hdv
 have hnK:(n - 1)*(K+3)≤64*1003:=Nat.mul_le_mul xq xq
 refine zzm Tryz.func87 rfl Tryz.ntmps87 Tryz.results87 d ?_
 refine sq9 (zza 4 (.v (qyn)) (zza 5 (zI 0) (zzb (zzd (sq9 (zza 12 (zI n) (zza 13 (zB (decide ((n:Int)<1))) (zyq 14 (x:=zB (decide ((n:Int)<1))) (zB false) (by rw[show (decide ((n:Int)<1))=false from decide_eq_false xq]) (zza 15 (zI n) ?_ (hw:=w1 2 false 14))))))))))
 refine zza 16 (zB (decide ((64:Int)<(n:Int)))) ?_ (hw:=w1 2 false 14)
 refine zza 17 (zB (decide ((64:Int)<(n:Int)))) (zzb (zzu (b:=decide ((64:Int)<(n:Int))) xj (fun hb=>?_) (fun hb=>?_)))
 ·exact absurd hb (by rw[show (decide ((64:Int)<(n:Int)))=false from decide_eq_false xq];decide)
 clear hb
 refine zzs (zzp ?_)
 refine sq9 (zza 18 (.v (x.v)) (zzg 19 135 _ fun _ _ aZ aO=>qym (k_natCut aO (hx.ext aZ) xq) ?_))
 rintro _ u15 g16 ⟨ab,rfl,ap⟩
 refine zza 6 (.v (ab.v)) (zzb (zzd (sq9 (zza 20 (.v (ab.v)) (zza 21 (zI ab.n) (zza 22 (zB ((ab.n:Int)==0)) (zzb (zzu (b:=(ab.n:Int)==0) xj (fun aa=>?_) (fun aa=>?_)))))))))
 ·have al:(ab.n:Int)=0:=by simpa using aa
  have aJ:N=0:=by have h9:=aa;simp at h9;have h8:=ap.pos;omega
  refine sq9 (zza 4 (.v (qyn)) (zza 5 (zI 0) (zzb (zzo (zzw (ret0 [qyn,.int .i64 0] ⟨zzq,zzq,trivial⟩ fun u19 e20=>?_))))))
  subst aJ
  exact ⟨⟨none,0,0⟩,rfl,nat_nilN _ _⟩
 have al:¬((ab.n:Int)=0):=by simpa using aa
 have hNp:1≤N:=by have h9:=aa;simp at h9;have h8:=ap.pos;omega
 refine zzs (zzp ?_)
 refine sq9 (zxx 23 ⟨79,[.int .u32 1]⟩ 1 (fun b21 u22 aH aW=>?_))
 refine zza 24 (.v (ab.v)) (zzg 25 138 _ fun _ _ ax aN=>qym (k_natBitLen aN (ap.ext (aH.trans ax)).raw xq) ?_)
 rintro _ u26 aD rfl
 refine zza 26 (zI n) (qwi 27 (((bitl N:Nat):Int)+(n:Int)) (((bitl N)+n:Nat):Int) xz (qwi 28 ((((bitl N)+n:Nat):Int) - 1) ((((bitl N)+n) - 1:Nat):Int) xz (zza 29 (zI n) (sy_quo 30 (n:=((bitl N+n - 1:Nat):Int)) (m:=(n:Int)) ((s:Nat):Int) xq (by rw[Int.tdiv_eq_ediv_of_nonneg xq,← Int.natCast_ediv,hs];exact IntWalk.i64_in _ xq) ?_))))
 refine zzg 31 139 _ fun _ _ aE aR=>qym (k_natRaise (s:=s) aR ((one_data aW).ext (ax.t (aD.t aE))).raw xq xq) ?_
 rintro _ aq aT ⟨aG,rfl,a4⟩
 refine zza 7 (.v (aG.v)) (zzb (zzt (zyn (I:=fun aF S' u'=>∃ (r:Nat) (y1:Sl),(aF=r)∧(irt n N≤r)∧(1≤r)∧(S'=St.of 62 [(1,zI n),(6,.v (ab.v)),(7,.v (y1.v))] [])∧(Ext aq u')∧(NatN u' y1 r (K+3))) (fun m S u1 u2 e h=>by obtain ⟨r,y1,hm,p0,p1,hS,hE,f0⟩:=h;exact ⟨r,y1,hm,p0,p1,hS,hE.trans e,f0.ext e⟩) _ yk ⟨(1*2^s),aG,rfl,(by rw[Nat.one_mul,← hs];exact newton_start hn1 (bitl_lt N)),(by rw[Nat.one_mul];exact Nat.pow_pos yq),rfl,(Ext.refl _),(NatN.more a4 xq)⟩ ?_)))
 rintro aF _ u35 ⟨r,y1,aS,hI,h1,rfl,aC,f0⟩
 refine zzt (sq9 (zza 33 (.v (ab.v)) (zza 34 (.v (y1.v)) (zza 35 (zI n) (qwi 36 ((n:Int) - 1) (n - 1:Nat) xz (zzg 37 142 _ fun _ _ ae aL=>qym (k_natPower (n:=n - 1) aL (f0.ext ae) xq xq) ?_))))))
 rintro _ u39 aj ⟨x37,rfl,a1⟩
 refine zzg 38 141 _ fun _ _ ag aP=>qym (k_natDivide aP (ap.ext (aH.t (ax.t (aD.t (aE.t (aT.t (aC.t (ae.t (aj.t ag))))))))) (a1.ext ag) (Nat.pow_pos h1) xq xq) ?_
 rintro _ u47 ar ⟨an,av,rfl,aU,h46⟩
 refine zza 32 (.v (.tuple #[an.v,av.v])) (zza 39 (.v (an.v)) (zza 40 (.v (av.v)) (zza 8 (.v (an.v)) (zza 9 (.v (av.v)) (zzc 62 [(1,zI n),(6,.v (ab.v)),(7,.v (y1.v)),(8,.v (an.v))] [] (sq9 (zza 42 (.v (y1.v)) (zza 43 (zI n) (qwi 44 ((n:Int) - 1) (n - 1:Nat) xz (sy_conv 45 ((n - 1:Nat):Int) (fun w=>by kernel_rfl) (IntWalk.u32_in _ xq) ?_))))))))))
 refine zxx 46 ⟨79,[.int .u32 (n - 1:Nat)]⟩ 1 (fun b50 u51 ah a3=>?_)
 refine zzg 47 81 _ fun _ _ af aV=>qym (k_natMul aV (f0.ext (ae.t (aj.t (ag.t (ar.t (ah.trans af)))))).raw ((digit_data (D:=n - 1) a3 xq).ext af) xq xq) ?_
 rintro _ u57 au ⟨x55,rfl,aK⟩
 refine zza 48 (.v (an.v)) (zzg 49 133 _ fun _ _ ai aX=>qym (k_natAdd aX (aK.ext ai).raw (aU.ext (ah.t (af.t (au.t ai)))).raw xq xq) ?_)
 rintro _ u63 aB ⟨x61,rfl,a2⟩
 refine zza 50 (zI n) (sy_conv 51 ((n:Nat):Int) (fun w=>by kernel_rfl) (IntWalk.u32_in _ xq) ?_)
 refine zxx 52 ⟨79,[.int .u32 (n:Nat)]⟩ 1 (fun b66 u67 ao aQ=>?_)
 refine zzg 53 141 _ fun _ _ ak aY=>qym (k_natDivide aY (a2.ext (ao.trans ak)) ((digit_dataN (D:=n) aQ xq xq).ext ak) xq xq xq) ?_
 rintro _ u75 aw ⟨ad,ay,rfl,aI,h74⟩
 refine zza 41 (.v (.tuple #[ad.v,ay.v])) (zza 54 (.v (ad.v)) (zza 55 (.v (ay.v)) (zza 10 (.v (ad.v)) (zza 11 (.v (ay.v)) (zzb (zzd (sq9 (zza 56 (.v (ad.v)) (zza 57 (.v (y1.v)) (zzg 58 80 _ fun _ _ am a0=>qym (k_natCompare a0 (aI.ext am).raw (f0.ext (ae.t (aj.t (ag.t (ar.t (ah.t (af.t (au.t (ai.t (aB.t (ao.t (ak.t (aw.t am))))))))))))).raw) ?_))))))))))
 rintro _ u79 aA rfl
 refine zza 59 (zB (decide ((0:Int)≤(cmpS (((((r*(n - 1))+(N / (r^(n - 1)))) / n):Nat):Int) ((r:Nat):Int))))) (zzb (zzu (b:=decide ((0:Int)≤(cmpS (((((r*(n - 1))+(N / (r^(n - 1)))) / n):Nat):Int) ((r:Nat):Int)))) xj (fun ac=>?_) (fun ac=>?_)))
 ·have qhb82:=qyt ac
  have ehb82:=ac
  rw[cmp_geN] at ehb82
  have qnhb82:=qyt ehb82
  refine sq9 (zza 60 (.v (y1.v)) (zza 4 (.v (y1.v)) (zza 5 (zI 0) (zzb (zzo (zzw (zyu (zyt (zyu (ret0 [y1.v,.int .i64 0] ⟨zzq,zzq,trivial⟩ fun u83 aM=>?_))))))))))
  have hd:=nw_done hn1 hI qnhb82
  subst hd
  exact ⟨y1,rfl,(f0.ext (ae.t (aj.t (ag.t (ar.t (ah.t (af.t (au.t (ai.t (aB.t (ao.t (ak.t (aw.t (am.t (aA.t aM)))))))))))))))⟩
 have qhb82:=qyf ac
 have ehb82:=ac
 rw[cmp_geN] at ehb82
 have qnhb82:=Nat.lt_of_not_le (qyf ehb82)
 refine zzs (zzp ?_)
 refine zzf (zza 61 (.v (ad.v)) (zza 7 (.v (ad.v)) (zzx ?_)))
 refine ⟨_,?_,_,by exact zzv _ _ _,(((r*(n - 1))+(N / (r^(n - 1)))) / n),ad,rfl,(nw_ge hn1 h1),(Nat.le_trans (irt_pos hn1 hNp) (nw_ge hn1 h1)),rfl,(aC.t (ae.t (aj.t (ag.t (ar.t (ah.t (af.t (au.t (ai.t (aB.t (ao.t (ak.t (aw.t (am.t aA.ext)))))))))))))),(NatN.fit (aI.ext (am.t aA.ext)) (Nat.le_trans (dl_mono (Nat.le_of_lt qnhb82)) f0.2.2))⟩
 omega
theorem k_natPow {u w:World} {x:Sl} {A n K:Nat} (d:Dat u w) (hx:NatN u x A K) (hn:n≤64) (hK:K≤1000000):qyc 88 #[x.v,.int .i64 (n:Int)] w (Post u w fun v u'=>∃y:Sl,v=.tuple #[y.v,.int .i64 0]∧NatN u' y (A^n) (n*K+K+1)):=by
 refine zzm Tryz.func88 rfl Tryz.ntmps88 Tryz.results88 d ?_
 refine sq9 (zza 4 (.v (qyn)) (zza 5 (zI 0) (zzb (zzd (sq9 (zza 6 (zI n) (zza 7 (zB (decide ((n:Int)<0))) (zyq 8 (x:=zB (decide ((n:Int)<0))) (zB false) (by rw[show (decide ((n:Int)<0))=false from decide_eq_false xq]) (zza 9 (zI n) ?_ (hw:=w1 2 false 8))))))))))
 refine zza 10 (zB (decide ((64:Int)<(n:Int)))) ?_ (hw:=w1 2 false 8)
 refine zza 11 (zB (decide ((64:Int)<(n:Int)))) (zzb (zzu (b:=decide ((64:Int)<(n:Int))) xj (fun hb=>?_) (fun hb=>?_)))
 ·exact absurd hb (by rw[show (decide ((64:Int)<(n:Int)))=false from decide_eq_false xq];decide)
 clear hb
 refine zzs (zzp ?_)
 refine sq9 (zza 12 (.v (x.v)) (zza 13 (zI n) (zzg 14 142 _ fun _ _ ae ab=>qym (k_natPower (n:=n) ab (hx.ext ae) xq xq) ?_)))
 rintro _ u15 g16 ⟨aa,rfl,ac⟩
 refine zza 4 (.v (aa.v)) (zza 5 (zI 0) (zzb (zzo (ret0 [aa.v,.int .i64 0] ⟨zzq,zzq,trivial⟩ fun u18 ad=>?_))))
 exact ⟨aa,rfl,(ac.ext ad)⟩
set_option maxRecDepth 20000
namespace Nt
def rtD (q:Rat) (n b:Nat):Nat:=q.num.natAbs*2^(n*b) / q.den
def rtN (q:Rat) (n b:Nat):Nat:=irt n (rtD q n b)
def rtX (q:Rat) (n b:Nat):Prop:=q.num.natAbs*2^(n*b)%q.den=0∧rtN q n b^n=rtD q n b
instance (q:Rat) (n b:Nat):Decidable (rtX q n b):=by unfold rtX;infer_instance
def rtH (q:Rat) (n b:Nat):Int:=if rtX q n b then (rtN q n b:Int) else (rtN q n b:Int)+1
theorem sgQ_nn {q:Rat} (h:0≤q):¬sgQ q<0:=by
 intro h1
 have h2:=(sgQ_lt q).symm
 rw[decide_eq_true h1] at h2
 exact absurd (qyt h2) (Rat.not_lt.2 h)
theorem rat_pow_cast (a:Nat):∀n:Nat,((a^n:Nat):Rat)=(a:Rat)^n
 | 0=>by rw[Nat.pow_zero,Rat.pow_zero];rfl
 | n+1=>by rw[Nat.pow_succ,Rat.pow_succ,Rat.natCast_mul,rat_pow_cast a n]
theorem rat_mul_pow (a b:Rat):∀n:Nat,(a*b)^n=a^n*b^n
 | 0=>by rw[Rat.pow_zero,Rat.pow_zero,Rat.pow_zero,Rat.mul_one]
 | n+1=>by rw[Rat.pow_succ,Rat.pow_succ,Rat.pow_succ,rat_mul_pow a b n];grind
theorem gr_pow (k z n:Nat):gr k (z:Int)^n*((2^(n*k):Nat):Rat)=((z^n:Nat):Rat):=by
 have h:=gr_mul k (z:Int)
 have e:(u2 k:Rat)=((2^k:Nat):Rat):=rfl
 rw[e] at h
 rw[show n*k=k*n from Nat.mul_comm ..,Nat.pow_mul,rat_pow_cast,rat_pow_cast z,← rat_mul_pow,h];rfl
theorem q_den {q:Rat} (h:0≤q):q*(q.den:Rat)=(q.num.natAbs:Rat):=by
 have h1:q*(q.den:Rat)=(q.num:Rat):=by
  have e:q=(q.num:Rat) / ((q.den:Int):Rat):=by rw[mk_div];exact (Rat.mkRat_self q).symm
  have:=div_mul_c (x:=(q.num:Rat)) (cast_pos q.den_pos)
  have e2:(q.num:Rat) / (q.den:Rat)=q:=e.symm
  rw[e2] at this;exact this
 have h2:0≤q.num:=Rat.num_nonneg.2 h
 rw[h1]
 have:((q.num.natAbs:Nat):Int)=q.num:=by omega
 have e:((q.num.natAbs:Nat):Rat)=(((q.num.natAbs:Nat):Int):Rat):=rfl
 rw[e,this]
theorem rt_tight {q:Rat} {n k:Nat} (hq:0≤q) (hn:1≤n):gr k (rtN q n k:Int)^n≤q∧q≤gr k (rtH q n k)^n∧(gr k (rtN q n k:Int)^n=q↔rtX q n k):=by
 have hd:=q.den_pos
 have hdr:=cast_pos hd
 have hp:=cast_pos (Nat.pow_pos (n:=n*k) (show 0<2 by decide))
 obtain ⟨a1,a2⟩:=irt_ok hn (rtD q n k)
 have b1:=Rat.natCast_le_natCast.2 ((Nat.le_div_iff_mul_le hd).1 a1)
 have b2:=Rat.natCast_lt_natCast.2 ((Nat.div_lt_iff_lt_mul hd).1 a2)
 rw[Rat.natCast_mul,Rat.natCast_mul,← q_den hq] at b1 b2
 have g1:=gr_pow k (rtN q n k) n
 have g2:=gr_pow k (rtN q n k+1) n
 have e1:gr k (rtN q n k:Int)^n≤q:=by
  refine Rat.le_of_mul_le_mul_right (c:=((2^(n*k):Nat):Rat)) (Rat.le_of_mul_le_mul_right (c:=(q.den:Rat)) ?_ hdr) hp
  rw[g1]
  have:q*((2^(n*k):Nat):Rat)*(q.den:Rat)=q*(q.den:Rat)*((2^(n*k):Nat):Rat):=by grind
  rw[this];exact b1
 have e2:q≤gr k ((rtN q n k+1:Nat):Int)^n:=by
  refine Rat.le_of_mul_le_mul_right (c:=((2^(n*k):Nat):Rat)) (Rat.le_of_mul_le_mul_right (c:=(q.den:Rat)) ?_ hdr) hp
  rw[g2]
  have:q*((2^(n*k):Nat):Rat)*(q.den:Rat)=q*(q.den:Rat)*((2^(n*k):Nat):Rat):=by grind
  rw[this];exact Rat.le_of_lt b2
 have hx:gr k (rtN q n k:Int)^n=q↔rtX q n k:=by
  have key:gr k (rtN q n k:Int)^n=q↔((rtN q n k^n*q.den:Nat):Rat)=((q.num.natAbs*2^(n*k):Nat):Rat):=by
   rw[Rat.natCast_mul,Rat.natCast_mul,← g1,← q_den hq]
   have hd':(q.den:Rat)≠0:=by grind
   have hp':((2^(n*k):Nat):Rat)≠0:=by grind
   generalize gr k (rtN q n k:Int)^n=y at *
   generalize ((2^(n*k):Nat):Rat)=P at *
   generalize (q.den:Rat)=D at *
   constructor
   ·intro h;rw[h];grind
   intro h
   have:(y - q)*(P*D)=0:=by grind
   rcases Rat.mul_eq_zero.1 this with h9 | h9
   ·grind
   rcases Rat.mul_eq_zero.1 h9 with h8 | h8
   ·exact absurd h8 hp'
   exact absurd h8 hd'
  rw[key,Rat.natCast_inj]
  unfold rtX
  have hm:=Nat.div_add_mod (q.num.natAbs*2^(n*k)) q.den
  have eD:rtD q n k=q.num.natAbs*2^(n*k) / q.den:=rfl
  rw[← eD] at hm
  constructor
  ·intro h
   rw[← h]
   refine ⟨Nat.mul_mod_left _ _,?_⟩
   rw[eD,← h,Nat.mul_div_cancel _ hd]
  rintro ⟨h1,h2⟩
  rw[h1] at hm
  rw[h2,Nat.mul_comm];exact hm
 refine ⟨e1,?_,hx⟩
 unfold rtH
 by_cases h:rtX q n k
 ·rw[if_pos h,hx.2 h];exact Rat.le_refl
 rw[if_neg h];exact e2
end Nt
end Go.Proofs.YtedobdigeeflcaaGreat

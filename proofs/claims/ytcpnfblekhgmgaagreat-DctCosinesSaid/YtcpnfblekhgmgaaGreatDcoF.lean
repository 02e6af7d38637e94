/- Parts of the proof: contracts of functions, each walked once, and plain laws. -/
import Derived.Test.YtcpnfblekhgmgaaGreatDcoE
set_option linter.unusedVariables false
set_option maxHeartbeats 8000000
namespace Go.Proofs.YtcpnfblekhgmgaaGreat
open Nt
open Go.RowKit
theorem k_mode{u w:World}{r:Int}(d:Dat u w)(h1:1≤r)(h2:r≤3):qyc 173 #[.int .i64 r] w (Post u w fun v _=>v=.bool true):=by
 refine zzl Tryz.func173 rfl Tryz.ntmps173 Tryz.results173 d ?_;refine sq9 (zza 2 (zB false) (zzb (sq9 (zza 3 (zI r) (zza 4 (zB (decide ((1:Int)≤r))) (zqB 5 (show(decide ((1:Int)≤r))=true from decide_eq_true xq) (zza 6 (zI r) ?_ (hw:=w1 2 true 5))))))));refine zza 7 (zB (decide (r≤3))) ?_ (hw:=w1 2 true 5);refine zza 8 (zB (decide (r≤3))) (zza 2 (zB (decide (r≤3))) (zzb (zzn (ret0 [.bool (decide (r≤3))] ⟨zzp,trivial⟩ fun u12 e13=>?_))));show Value.bool _=Value.bool _;rw[show(decide (r≤3))=true from decide_eq_true xq]
theorem k_fxValid{u w:World}{W:WL}(d:Dat u w)(hW:WdOK W):qyc 118 #[W.v] w (Post u w fun v _=>v=.bool true):=by
 obtain⟨hw1,hw2,hw3,hw4,hw5,hw6,hw7,hw8⟩:=id hW;refine zzl Tryz.func118 rfl Tryz.ntmps118 Tryz.results118 d ?_;refine sq9 (zzj 1 ⟨87,W.cs⟩ (zza 2 (zB false) (zzb (zzd (sq9 (zza 3 (.adr 1 0) (zzh 4 (zI W.b) ty3 zzk (zza 5 (zB (decide (W.b<4))) (zqB 6 (show(decide (W.b<4))=false from decide_eq_false xq) (zza 7 (.adr 1 0) ?_ (hw:=w1 3 false 6)))))))))));refine zzh 8 (zI W.b) ty3 zzk ?_ (hw:=w1 3 false 6);refine zza 9 (zB (decide ((24:Int)<W.b))) ?_ (hw:=w1 3 false 6);refine zza 10 (zB (decide ((24:Int)<W.b))) (zqB 11 (show(decide ((24:Int)<W.b))=false from decide_eq_false xq) (zza 12 (.adr 1 1) ?_ (hw:=w1 8 false 11)));refine zzh 13 (zI W.f) ty3 zzk ?_ (hw:=w1 8 false 11);refine zza 14 (zB (decide (W.f<0))) ?_ (hw:=w1 8 false 11);refine zza 15 (zB (decide (W.f<0))) (zqB 16 (show(decide (W.f<0))=false from decide_eq_false xq) (zza 17 (.adr 1 1) ?_ (hw:=w1 13 false 16)));refine zzh 18 (zI W.f) ty3 zzk ?_ (hw:=w1 13 false 16);refine zza 19 (.adr 1 0) ?_ (hw:=w1 13 false 16);refine zzh 20 (zI W.b) ty3 zzk ?_ (hw:=w1 13 false 16);refine zza 21 (zB (decide (W.b≤W.f))) ?_ (hw:=w1 13 false 16);refine zza 22 (zB (decide (W.b≤W.f))) (zzb (zzt (b:=decide (W.b≤W.f)) xj (fun hb=>?_) (fun hb=>?_)))
 ·exact absurd hb (by rw[show(decide (W.b≤W.f))=false from decide_eq_false xq];decide)
 clear hb;refine zzr (zzo ?_);refine sq9 (zza 23 (.adr 1 2) (zzh 24 (zI W.r) ty3 zzk (zzg 25 173 _ fun _ _ _ aa=>qym (k_mode (r:=W.r) aa xq xq) ?_)));rintro _ u15 g16 rfl;refine zza 26 (zB true) (zza 27 (.adr 1 3) ?_ (hw:=w1 3 true 26));refine zzh 28 (zI W.o) ty3 zzk ?_ (hw:=w1 3 true 26);refine zza 29 (zB (W.o==1)) ?_ (hw:=w1 3 true 26)
 rcases Bool.eq_false_or_eq_true (W.o==1) with hs18|hs18
 ·refine qbi 30 hs18 ?_ (hw:=w1 3 true 26);refine zzm 31 (uw 7 false true 30) (zzm 32 (uw 7 false true 30) (zzm 33 (uw 7 false true 30) (zza 34 (zB true) ?_ (hw:=w1 3 true 26))));refine zza 35 (zB true) (zza 2 (zB true) (zzc 36 [(2,zB true)] [] (zzn (ret0 [.bool true] ⟨zzp,trivial⟩ fun u19 e20=>?_))))
  rfl
 refine qbi 30 hs18 ?_ (hw:=w1 3 true 26);refine zza 31 (.adr 1 3) ?_ (hw:=w1 7 false 30);refine zzh 32 (zI W.o) ty3 zzk ?_ (hw:=w1 7 false 30);refine zza 33 (zB (W.o==2)) ?_ (hw:=w1 7 false 30);refine zza 34 (zB (W.o==2)) ?_ (hw:=w1 3 true 26);refine zza 35 (zB (W.o==2)) (zza 2 (zB (W.o==2)) (zzc 36 [(2,zB (W.o==2))] [] (zzn (ret0 [.bool (W.o==2)] ⟨zzp,trivial⟩ fun u21 e22=>?_))));show Value.bool _=Value.bool _;rw[show(W.o==2)=true from(by have hz:=hs18;simp at hz ⊢;omega)]
theorem k_fxLow{u w:World}{W:WL}(d:Dat u w)(hW:WdOK W):qyc 174 #[W.v] w (Post u w fun v _=>v=.int .i64 (-p2i (W.b-1))):=by
 obtain⟨hw1,hw2,hw3,hw4,hw5,hw6,hw7,hw8⟩:=id hW;have hp1:=zxo (W.b-1);have hp2:=p2i_24 (n:=W.b-1) xq;refine zzl Tryz.func174 rfl Tryz.ntmps174 Tryz.results174 d ?_;refine sq9 (zzj 1 ⟨87,W.cs⟩ (zza 2 (zI 0) (zzb (zzd (sq9 (zzh 3 (.v (W.v)) ty87 zze (zzg 4 118 _ fun _ _ _ aa=>qym (k_fxValid (W:=W) aa hW) ?_)))))));rintro _ u12 g13 rfl;refine zza 5 (zB false) (zzb (zyr xj (zzr (zzo ?_))));refine sq9 (zza 6 (.adr 1 0) (zzh 7 (zI W.b) ty3 zzk (zyp 8 (x:=zI (IntKind.i64.wrap (W.b-1))) (zI (W.b-1)) yz (sy_shl 9 (k:=.i64) (s:=W.b-1) (p2i (W.b-1)) xq yy (shl_one xq xq) ?_))));refine zqI 10 (show(IntKind.i64.wrap (0-p2i (W.b-1)))=(-p2i (W.b-1)) from xk) (zza 2 (zI (-p2i (W.b-1))) (zzb (zzn (ret0 [.int .i64 (-p2i (W.b-1))] ⟨zzp,trivial⟩ fun u15 e16=>?_))))
 rfl
theorem k_fxHigh{u w:World}{W:WL}(d:Dat u w)(hW:WdOK W):qyc 175 #[W.v] w (Post u w fun v _=>v=.int .i64 (p2i (W.b-1)-1)):=by
 obtain⟨hw1,hw2,hw3,hw4,hw5,hw6,hw7,hw8⟩:=id hW;have hp1:=zxo (W.b-1);have hp2:=p2i_24 (n:=W.b-1) xq;refine zzl Tryz.func175 rfl Tryz.ntmps175 Tryz.results175 d ?_;refine sq9 (zzj 1 ⟨87,W.cs⟩ (zza 2 (zI 0) (zzb (zzd (sq9 (zzh 3 (.v (W.v)) ty87 zze (zzg 4 118 _ fun _ _ _ aa=>qym (k_fxValid (W:=W) aa hW) ?_)))))));rintro _ u12 g13 rfl;refine zza 5 (zB false) (zzb (zyr xj (zzr (zzo ?_))));refine sq9 (zza 6 (.adr 1 0) (zzh 7 (zI W.b) ty3 zzk (zyp 8 (x:=zI (IntKind.i64.wrap (W.b-1))) (zI (W.b-1)) yz (sy_shl 9 (k:=.i64) (s:=W.b-1) (p2i (W.b-1)) xq yy (shl_one xq xq) ?_))));refine zyp 10 (x:=zI (IntKind.i64.wrap ((p2i (W.b-1))-1))) (zI ((p2i (W.b-1))-1)) yz (zza 2 (zI ((p2i (W.b-1))-1)) (zzb (zzn (ret0 [.int .i64 ((p2i (W.b-1))-1)] ⟨zzp,trivial⟩ fun u15 e16=>?_))))
 rfl
theorem k_fxFits{u w:World}{W:WL}{z:Int}(d:Dat u w)(hW:WdOK W)(h0:-p2i (W.b-1)≤z)(h1:z<p2i (W.b-1)):qyc 120 #[W.v,.int .i64 z] w (Post u w fun v _=>v=.bool true):=by
 obtain⟨hw1,hw2,hw3,hw4,hw5,hw6,hw7,hw8⟩:=id hW;refine zzl Tryz.func120 rfl Tryz.ntmps120 Tryz.results120 d ?_;refine sq9 (zzj 2 ⟨87,W.cs⟩ (zza 4 (zB false) (zzb (sq9 (zzh 5 (.v (W.v)) ty87 zze (zzg 6 118 _ fun _ _ _ ac=>qym (k_fxValid (W:=W) ac hW) ?_))))));rintro _ u12 g13 rfl;refine zza 7 (zB true) (zza 8 (zI z) ?_ (hw:=w1 2 true 7));refine zzh 9 (.v (W.v)) ty87 zze ?_ (hw:=w1 2 true 7);refine zzg 10 174 _ (fun _ _ _ aa=>qym (k_fxLow (W:=W) aa hW) ?_) (hw:=w1 2 true 7);rintro _ u16 g17 rfl;refine zza 11 (zB (decide ((-p2i (W.b-1))≤z))) ?_ (hw:=w1 2 true 7);refine zza 12 (zB (decide ((-p2i (W.b-1))≤z))) (zqB 13 (show(decide ((-p2i (W.b-1))≤z))=true from decide_eq_true xq) (zza 14 (zI z) ?_ (hw:=w1 8 true 13)));refine zzh 15 (.v (W.v)) ty87 zze ?_ (hw:=w1 8 true 13);refine zzg 16 175 _ (fun _ _ _ ab=>qym (k_fxHigh (W:=W) ab hW) ?_) (hw:=w1 8 true 13);rintro _ u21 g22 rfl;refine zza 17 (zB (decide (z≤(p2i (W.b-1)-1)))) ?_ (hw:=w1 8 true 13);refine zza 18 (zB (decide (z≤(p2i (W.b-1)-1)))) (zza 4 (zB (decide (z≤(p2i (W.b-1)-1)))) (zzb (zzn (ret0 [.bool (decide (z≤(p2i (W.b-1)-1)))] ⟨zzp,trivial⟩ fun u24 e25=>?_))));show Value.bool _=Value.bool _;rw[show(decide (z≤(p2i (W.b-1)-1)))=true from decide_eq_true xq]
theorem k_within{u w:World}{n m:Int}(d:Dat u w)(hm:1≤m)(hm2:m≤4611686018427387904)(hn0:-9223372036854775808≤n)(hn1:n≤9223372036854775807):qyc 8 #[.int .i64 n,.int .i64 m] w (Post u w fun v _=>v=.int .i64 (n%m)):=by
 refine zzl Tryz.func8 rfl Tryz.ntmps8 Tryz.results8 d ?_;refine sq9 (zza 4 (zI 0) (zzb (zzd (sq9 (zza 5 (zI m) (zqB 6 (show(decide (m<1))=false from yw) (zzb (zyr xj (zzr (zzo ?_))))))))));refine sq9 (zza 7 (zI n) (zza 8 (zI m) (sy_rem 9 (Int.tmod n m) xq rfl ?_)));refine zza 0 (zI (Int.tmod n m)) (zzb (zzd (sq9 (zza 10 (zI (Int.tmod n m)) (zza 11 (zB (decide ((Int.tmod n m)<0))) (zzb (zzt (b:=decide ((Int.tmod n m)<0)) xj (fun aa=>?_) (fun aa=>?_))))))))
 ·have qhb11:=qyt aa;refine zzf (zza 12 (zI (Int.tmod n m)) (zza 13 (zI m) (zqI 14 (show(IntKind.i64.wrap (Int.tmod n m+m))=(Int.tmod n m+m) from(IntWalk.i64_in _ (by have h2:=Int.lt_tmod_of_pos n (show 0<m by omega);have h3:=Int.tmod_lt_of_pos n (show 0<m by omega);omega))) (zza 0 (zI (Int.tmod n m+m)) (zzb (sq9 (zza 15 (zI (Int.tmod n m+m)) (zza 4 (zI (Int.tmod n m+m)) (zzb (zzn (ret0 [.int .i64 (Int.tmod n m+m)] ⟨zzp,trivial⟩ fun u12 e13=>?_)))))))))));show Value.int _ _=Value.int _ _;rw[mod_neg9 m hm n aa]
 have qhb11:=qyf aa;refine zzr (zzo ?_);refine sq9 (zza 15 (zI (Int.tmod n m)) (zza 4 (zI (Int.tmod n m)) (zzb (zzn (ret0 [.int .i64 (Int.tmod n m)] ⟨zzp,trivial⟩ fun u14 e15=>?_)))));show Value.int _ _=Value.int _ _;rw[mod_pos9 m hm n aa]
theorem k_fxShift2{u w:World}{v n:Int}(d:Dat u w)(hv0:-1152921504606846976≤v)(hv1:v≤1152921504606846976)(hn0:0≤n)(hn1:n≤24):qyc 143 #[.int .i64 v,.int .i64 n,.int .i64 2] w (Post u w fun y _=>y=.int .i64 (shiftW v n 2)):=by
 have hp1:=zxo n;have hp2:=p2i_24 (n:=n) xq;have hd1:=div_bd (v:=v) hp1;have hm1:=Int.emod_nonneg (v/p2i (n-1)) (show(2:Int)≠0 by decide);have hm2:=Int.emod_lt_of_pos (v/p2i (n-1)) (show(0:Int)<2 by decide);refine zzl Tryz.func143 rfl Tryz.ntmps143 Tryz.results143 d ?_;refine sq9 (zza 6 (zI 0) (zzb (zzd (sq9 (zza 9 (zI n) (zza 10 (zB (decide (n<0))) (zqB 11 (show(decide (n<0))=false from decide_eq_false xq) (zza 12 (zI n) ?_ (hw:=w1 2 false 11)))))))));refine zza 13 (zB (decide ((62:Int)<n))) ?_ (hw:=w1 2 false 11);refine zza 14 (zB (decide ((62:Int)<n))) (zqB 15 (show(decide ((62:Int)<n))=false from decide_eq_false xq) (zza 16 (zI 2) ?_ (hw:=w1 6 false 15)));refine zzg 17 173 _ (fun _ _ _ ac=>qym (k_mode (r:=2) ac xq xq) ?_) (hw:=w1 6 false 15);rintro _ u14 g15 rfl;refine zza 18 (zB false) ?_ (hw:=w1 6 false 15);refine zza 19 (zB false) (zzb (zyr xj (zzr (zzo ?_))));refine zzd (sq9 (zza 20 (zI n) (zza 21 (zB (n==0)) (zzb (zzt (b:=n==0) xj (fun aa=>?_) (fun aa=>?_))))))
 ·have qhb17:=aa
  simp at qhb17
  refine sq9 (zza 22 (zI v) (zza 6 (zI v) (zzb (zzn (zzv (ret0 [.int .i64 v] ⟨zzp,trivial⟩ fun u18 e19=>?_))))));show Value.int _ _=Value.int _ _
  unfold shiftW
  rw[if_pos qhb17]
 have qhb17:=aa
 simp at qhb17
 refine zzr (zzo ?_);refine sq9 (zza 23 (zI v) (zza 24 (zI n) (sy_shr 25 (k:=.i64) (n:=v) (s:=n) (v/p2i n) xq yy rfl ?_)));refine zza 7 (zI (v/p2i n)) (zzb (sq9 (zza 26 (zI (v/p2i n)) (zza 27 (zI (v/p2i n)) (zza 28 (zI v) (zza 29 (zI n) (zyp 30 (x:=zI (IntKind.i64.wrap (n-1))) (zI (n-1)) yz (sy_shr 31 (k:=.i64) (n:=v) (s:=n-1) (v/p2i (n-1)) xq yy rfl ?_))))))));refine zyp 32 (x:=zI (bits .and .i64 (v/p2i (n-1)) 1)) (zI (v/p2i (n-1)%2)) (eqI (bits_1 _)) (zyp 33 (x:=zI (IntKind.i64.wrap ((v/p2i n)+(v/p2i (n-1)%2)))) (zI ((v/p2i n)+(v/p2i (n-1)%2))) yz (zza 34 (zI (v/p2i n)) (zza 35 (.v (.agg #[.int .i64 (v/p2i n),.int .i64 ((v/p2i n)+(v/p2i (n-1)%2)),.int .i64 (v/p2i n)])) (zzj 8 ⟨158,[.int .i64 0,.int .i64 0,.int .i64 0]⟩ (zzi ⟨158,[.int .i64 (v/p2i n),.int .i64 ((v/p2i n)+(v/p2i (n-1)%2)),.int .i64 (v/p2i n)]⟩ ty158 ?_)))));refine zzb (zzd (sq9 (zza 36 (zI v) (zza 37 (zB (decide (v<0))) ?_))))
 rcases Bool.eq_false_or_eq_true (decide (v<0)) with hs20|hs20
 ·refine qbi 38 hs20 ?_;have qhs20:=qyt hs20;refine zza 39 (zI v) ?_ (hw:=w1 2 true 38);refine zza 40 (zI n) ?_ (hw:=w1 2 true 38);refine sy_shl 41 (k:=.i64) (s:=n) (p2i n) xq yy (shl_one xq xq) ?_ (hw:=w1 2 true 38);refine zyp 42 (x:=zI (IntKind.i64.wrap ((p2i n)-1))) (zI ((p2i n)-1)) yz ?_ (hw:=w1 2 true 38);refine zyp 43 (x:=zI (bits .and .i64 v (p2i n-1))) (zI (v%p2i n)) (eqI (bits_p2 xq xq)) ?_ (hw:=w1 2 true 38);refine zza 44 (zB ((v%p2i n) != 0)) ?_ (hw:=w1 2 true 38);refine zza 45 (zB ((v%p2i n) != 0)) (zzc 54 [(2,zI 2),(8,.adr 8 0),(45,zB ((v%p2i n) != 0))] [(8,⟨158,[.int .i64 (v/p2i n),.int .i64 ((v/p2i n)+(v/p2i (n-1)%2)),.int .i64 (v/p2i n)]⟩)] (zzt (b:=(v%p2i n) != 0) xj (fun ab=>?_) (fun ab=>?_)))
  ·have qhb21:=ab
   simp at qhb21
   refine zzf (zza 46 (.adr 8 2) (zzh 47 (zI (v/p2i n)) ty3 zzk (zyp 48 (x:=zI (IntKind.i64.wrap ((v/p2i n)+1))) (zI ((v/p2i n)+1)) yz (zza 49 (.adr 8 2) (zzi ⟨158,[.int .i64 (v/p2i n),.int .i64 ((v/p2i n)+(v/p2i (n-1)%2)),.int .i64 ((v/p2i n)+1)]⟩ ty3 ?_)))));refine zzb (sq9 (zza 50 (zI 2) (zza 51 (zI 1) (zza 52 (.adr 8 1) (zzh 53 (zI ((v/p2i n)+(v/p2i (n-1)%2))) ty3 zzk (zza 6 (zI ((v/p2i n)+(v/p2i (n-1)%2))) (zzb (zzn (ret0 [.int .i64 ((v/p2i n)+(v/p2i (n-1)%2))] ⟨zzp,trivial⟩ fun u22 e23=>?_)))))))));show Value.int _ _=Value.int _ _
   unfold shiftW
   rw[if_neg qhb17];rw[if_pos rfl]
  have qhb21:=ab
  simp at qhb21
  refine zzr (zzo ?_);refine sq9 (zza 50 (zI 2) (zza 51 (zI 1) (zza 52 (.adr 8 1) (zzh 53 (zI ((v/p2i n)+(v/p2i (n-1)%2))) ty3 zzk (zza 6 (zI ((v/p2i n)+(v/p2i (n-1)%2))) (zzb (zzn (ret0 [.int .i64 ((v/p2i n)+(v/p2i (n-1)%2))] ⟨zzp,trivial⟩ fun u24 e25=>?_))))))));show Value.int _ _=Value.int _ _
  unfold shiftW
  rw[if_neg qhb17];rw[if_pos rfl]
 refine qbi 38 hs20 ?_;have qhs20:=qyf hs20;refine zzm 39 (uw 2 true false 38) (zzm 40 (uw 2 true false 38) (zzm 41 (uw 2 true false 38) (zzm 42 (uw 2 true false 38) (zzm 43 (uw 2 true false 38) (zzm 44 (uw 2 true false 38) (zza 45 (zB false) (zzc 54 [(2,zI 2),(8,.adr 8 0),(45,zB false)] [(8,⟨158,[.int .i64 (v/p2i n),.int .i64 ((v/p2i n)+(v/p2i (n-1)%2)),.int .i64 (v/p2i n)]⟩)] (zyr xj (zzr (zzo ?_))))))))));refine sq9 (zza 50 (zI 2) (zza 51 (zI 1) (zza 52 (.adr 8 1) (zzh 53 (zI ((v/p2i n)+(v/p2i (n-1)%2))) ty3 zzk (zza 6 (zI ((v/p2i n)+(v/p2i (n-1)%2))) (zzb (zzn (ret0 [.int .i64 ((v/p2i n)+(v/p2i (n-1)%2))] ⟨zzp,trivial⟩ fun u26 e27=>?_))))))));show Value.int _ _=Value.int _ _
 unfold shiftW
 rw[if_neg qhb17];rw[if_pos rfl]
theorem k_fxWrap{u w:World}{b v:Int}(d:Dat u w)(hb0:1≤b)(hb1:b≤62):qyc 142 #[.int .i64 b,.int .i64 v] w (Post u w fun y _=>y=.int .i64 (wrapW b v)):=by
 have hp1:=zxo b;have hp2:p2i b≤4611686018427387904:=zwd (b:=62) xq;have hp3:=zxo (b-1);have hp4:p2i (b-1)≤p2i b:=zwd xq;have hm1:=Int.emod_nonneg v (show p2i b≠0 by omega);have hm2:=Int.emod_lt_of_pos v hp1;refine zzl Tryz.func142 rfl Tryz.ntmps142 Tryz.results142 d ?_;refine sq9 (zza 4 (zI 0) (zzb (zzd (sq9 (zza 6 (zI b) (zza 7 (zB (decide (b<1))) (zqB 8 (show(decide (b<1))=false from decide_eq_false xq) (zza 9 (zI b) ?_ (hw:=w1 2 false 8)))))))));refine zza 10 (zB (decide ((62:Int)<b))) ?_ (hw:=w1 2 false 8);refine zza 11 (zB (decide ((62:Int)<b))) (zzb (zzt (b:=decide ((62:Int)<b)) xj (fun hb=>?_) (fun hb=>?_)))
 ·exact absurd hb (by rw[show(decide ((62:Int)<b))=false from decide_eq_false xq];decide)
 clear hb;refine zzr (zzo ?_);refine sq9 (zza 12 (zI v) (zza 13 (zI b) (sy_shl 14 (k:=.i64) (s:=b) (p2i b) xq yy (shl_one9 xq xq) ?_)));refine zyp 15 (x:=zI (IntKind.i64.wrap ((p2i b)-1))) (zI ((p2i b)-1)) yz (zyp 16 (x:=zI (bits .and .i64 v (p2i b-1))) (zI (v%p2i b)) (eqI (bits_p2 xq xq)) (zza 5 (zI (v%p2i b)) (zzb (zzd (sq9 (zza 17 (zI (v%p2i b)) (zza 18 (zI b) (zyp 19 (x:=zI (IntKind.i64.wrap (b-1))) (zI (b-1)) yz (sy_shl 20 (k:=.i64) (s:=b-1) (p2i (b-1)) xq yy (shl_one9 xq xq) ?_)))))))));refine zza 21 (zB (decide ((p2i (b-1))≤(v%p2i b)))) (zzb (zzt (b:=decide ((p2i (b-1))≤(v%p2i b))) xj (fun aa=>?_) (fun aa=>?_)))
 ·have qhb12:=qyt aa;refine zzf (zza 22 (zI (v%p2i b)) (zza 23 (zI b) (sy_shl 24 (k:=.i64) (s:=b) (p2i b) xq yy (shl_one9 xq xq) ?_)));refine zyp 25 (x:=zI (IntKind.i64.wrap ((v%p2i b)-(p2i b)))) (zI ((v%p2i b)-(p2i b))) yz (zza 5 (zI ((v%p2i b)-(p2i b))) (zzb (sq9 (zza 26 (zI ((v%p2i b)-(p2i b))) (zza 4 (zI ((v%p2i b)-(p2i b))) (zzb (zzn (ret0 [.int .i64 ((v%p2i b)-(p2i b))] ⟨zzp,trivial⟩ fun u13 e14=>?_))))))));show Value.int _ _=Value.int _ _
  unfold wrapW
  rw[if_pos xq]
 have qhb12:=qyf aa;refine zzr (zzo ?_);refine sq9 (zza 26 (zI (v%p2i b)) (zza 4 (zI (v%p2i b)) (zzb (zzn (ret0 [.int .i64 (v%p2i b)] ⟨zzp,trivial⟩ fun u15 e16=>?_)))));show Value.int _ _=Value.int _ _
 unfold wrapW
 rw[if_neg xq]
theorem k_cloneI{u w:World}{x:Sl}{l:List Int}(d:Dat u w)(hx:SlR .i64 u x.a x.n x.c l)(h0:0<l.length)(h9:l.length≤1000000000):qyc 87 #[x.v] w (Post u w fun v u'=>∃(b c:Nat) (X:List Value),v=.slice (some ⟨b,0,none⟩) x.n c∧u.heap.size≤b∧u'.heap[b]? = some (.cells (ics l++X).toArray 3 (0,0))∧(ics l++X).length=c∧x.n≤c∧c≤maxLen):=by
 obtain⟨xa,n0,c0⟩:=x;obtain⟨hn,h2,h3,h4⟩:=hx
 change l.length=n0 at hn
 obtain⟨b0,o0,e,hb0,hc⟩:=h4 (by show 0<n0;omega)
 change xa=_ at e
 subst e
 change ∀i,i<n0→_ at hc
 change Calls _ _ #[.slice (some ⟨b0,o0,none⟩) n0 c0] _ _
 refine zzl Tryz.func87 rfl Tryz.ntmps87 Tryz.results87 d ?_;refine sq9 (zza 2 (.v (qyn)) (zzb (zzd (sq9 (zza 3 (.v (.slice (some ⟨b0,o0,none⟩) n0 c0)) (zza 4 (zB false) (zzb (zyr xj (zzr (zzo ?_))))))))));refine sq9 (sy_lit 5 ⟨3,[]⟩ 0 ?_);refine zza 6 (.v (.slice (some ⟨b0,o0,none⟩) n0 c0)) (sy_app1 7 (T:=29) (E:=3) (z:=.int .i64 0) (size:=1) (bytes:=8) (b:=b0) (off:=o0) (m:=n0) (c:=c0) (n:=0) (cap:=0) (t:=5) (cs0:=[]) [5,7] (ics l) xj xj xj xw (by rw[zwi,hn,Nat.mul_one]) (fun j v hv=>by have h9:=(List.getElem?_eq_some_iff.1 hv).1;rw[zwi] at h9;rw[hc j xq,←hv,ics_at h9,qyg]) ics_one xq yv xq xq xw rfl xz ?_);intro c1 cs k1 k2 k3 k4;refine zza 2 (.slc 7 0 (0+n0) c1) (zzc 8 [(2,.slc 7 0 (0+n0) c1)] [(7,⟨3,cs⟩)] (zyo (r:=2) (t:=7) [2,7] xz xj (by rfl) (by rfl) xj (fun b u2 e2 hb hh=>?_)));refine zzn (ret0 [.slice (some ⟨b,0,none⟩) (0+n0) c1] ⟨zzp,trivial⟩ fun u11 aa=>?_);rw[Nat.zero_add,Nat.mul_one] at k4;rw[Nat.zero_add] at k1;rw[Nat.mul_one] at k3
 change cs.take n0=ics l at k4
 have e9:cs=ics l++cs.drop n0:=by rw[←k4];exact(List.take_append_drop n0 cs).symm
 refine⟨b,c1,cs.drop n0,?_,hb,?_,by rw[←e9];exact k3,k1,k2⟩
 ·show Value.slice _ (0+n0) _=_;rw[Nat.zero_add]
 rw[←e9];exact aa.cells hh
theorem k_perform{u w:World}{g n c:Nat}{l:List Int}{X:List Value}{t f:Nat}{cf sh sg:Int}(d:Dat u w)(hg:w.heap[g]? = some (.cells (ics l++X).toArray 3 (0,0)))(hu:u.heap[g]? = some hidO)(hl:l.length=n)(hW:W32 l)(hn9:n≤1000)(hs:shOK (n:Int) [(t:Int),(f:Int),cf,sh])(hsg:sg=1∨sg=-1):qyc 88 #[.slice (some ⟨g,0,none⟩) n c,.agg #[.int .i64 (t:Int),.int .i64 (f:Int),.int .i64 cf,.int .i64 sh],.int .i64 sg] w (PostL u w g fun V u'=>V=⟨3,ics (shF [(t:Int),(f:Int),cf,sh] sg l)++X⟩):=by
 obtain⟨h1,h2,h3,h4,h5,h6,h7,h8⟩:=shOK_mk hs;have hlt:=hW.get t;have hlf:=hW.get f;have hm:=sh_mul (a:=cf) (b:=l.getD f 0) (A:=2097152) (B:=2147483648) ⟨h5,h6⟩ ⟨by omega,by omega⟩ xw;have hsb:=shift_bd2 (cf*l.getD f 0) sh;have hsx:=sg_bd (x:=shiftW (cf*l.getD f 0) sh 2) (B:=4503599627370497) hsg ⟨by omega,by omega⟩;refine calls_lent (args:=[.agg #[.int .i64 (t:Int),.int .i64 (f:Int),.int .i64 cf,.int .i64 sh],.int .i64 sg]) Tryz.func88 rfl Tryz.ntmps88 Tryz.results88 (le_b rfl) d hg hu ?_;refine sq9 (zzj 4 ⟨28,[.int .i64 t,.int .i64 f,.int .i64 cf,.int .i64 sh]⟩ (zzb (sq9 (zza 7 (.adr 4 3) (zzh 8 (zI sh) ty3 zzk (zzb (zzs (sq9 (zza 35 (zB (sh==(-1))) (zza 34 (zB (sh==(-1))) (zzb ?_)))))))))));refine zzt (b:=sh==(-1)) xj (fun ac=>?_) (fun ac=>?_)
 ·have aa:sh=(-1):=by simpa using ac
  refine zzy [0,0,2,0,0,16,0,0,128,448,960,0,0,4096,14336,30720,65479,131015,262143,524287] [(0,[]),(1,[]),(2,[]),(3,[]),(4,[]),(5,[]),(6,[]),(7,[]),(8,[]),(9,[]),(10,[]),(11,[]),(12,[]),(13,[]),(14,[]),(15,[]),(16,[]),(17,[40]),(18,[]),(19,[])] xj xj (zza 36 (.slc 67 0 n c) (zza 37 (.adr 4 0) (zzh 38 (zI t) ty3 zzk (zza 39 (.slc 67 0 n c) (zza 40 (.adr 4 1) (zzh 41 (zI f) ty3 zzk (zza 42 (.slc 67 0 n c) (zza 43 (.adr 4 1) (zzh 44 (zI f) ty3 zzk (zyv 45 (off':=f*1) (n:=n) (off:=0) (sz:=1) (i:=(f:Int)) sl29 xq xq xq ?_))))))))));refine zzh 46 (V:=⟨3,ics l++X⟩) (off:=f*1) (zI (l.getD f 0)) ty3 (part_intsX (l:=l) (i:=f) (by rw[hl];omega) rfl) (zza 47 (.slc 67 0 n c) (zza 48 (.adr 4 0) (zzh 49 (zI t) ty3 zzk (zyv 50 (off':=t*1) (n:=n) (off:=0) (sz:=1) (i:=(t:Int)) sl29 xq xq xq ?_))));refine zzh 51 (V:=⟨3,ics l++X⟩) (off:=t*1) (zI (l.getD t 0)) ty3 (part_intsX (l:=l) (i:=t) (by rw[hl];omega) rfl) (zyv 52 (off':=t*1) (n:=n) (off:=0) (sz:=1) (i:=(t:Int)) sl29 xq xq xq ?_);refine zyu (V:=⟨3,ics l++X⟩) (off:=t*1) (ics (l.set t (l.getD f 0))++X) ty3 (by rw[List.length_append,zwi,hl];omega) (setL_intsX (z:=(l.getD f 0)) (i:=t) (by rw[hl];omega) rfl) ?_;refine zyv 53 (off':=f*1) (n:=n) (off:=0) (sz:=1) (i:=(f:Int)) sl29 xq xq xq ?_;refine zyu (V:=⟨3,ics (l.set t (l.getD f 0))++X⟩) (off:=f*1) (ics ((l.set t (l.getD f 0)).set f (l.getD t 0))++X) ty3 (by rw[List.length_append,zwi,(List.length_set.trans hl)];omega) (setL_intsX (z:=(l.getD t 0)) (i:=f) (by rw[(List.length_set.trans hl)];omega) rfl) ?_;refine zzw ?_;refine lent_end (V:=⟨3,ics ((l.set t (l.getD f 0)).set f (l.getD t 0))++X⟩) rfl rfl (fun _ _=>?_);rw[(shF_x aa)]
 have aa:¬sh=(-1):=by simpa using ac
 refine sq9 (zza 55 (zB (sh==(-2))) (zza 54 (zB (sh==(-2))) (zzb (zzt (b:=sh==(-2)) xj (fun ad=>?_) (fun ad=>?_)))))
 ·have ab:sh=(-2):=by simpa using ad
  refine zzy [0,0,2,0,0,16,56,120,248,504,1023,2047] [(0,[]),(1,[]),(2,[]),(3,[]),(4,[]),(5,[]),(6,[]),(7,[]),(8,[]),(9,[]),(10,[]),(11,[])] xj xj (zza 56 (.slc 67 0 n c) (zza 57 (.adr 4 0) (zzh 58 (zI t) ty3 zzk (zza 59 (.slc 67 0 n c) (zza 60 (.adr 4 0) (zzh 61 (zI t) ty3 zzk (zyv 62 (off':=t*1) (n:=n) (off:=0) (sz:=1) (i:=(t:Int)) sl29 xq xq xq ?_)))))));refine zzh 63 (V:=⟨3,ics l++X⟩) (off:=t*1) (zI (l.getD t 0)) ty3 (part_intsX (l:=l) (i:=t) (by rw[hl];omega) rfl) (qwi 64 (0-(l.getD t 0)) (-(l.getD t 0)) xk (zzg 65 142 _ fun _ _ _ af=>qym (k_fxWrap (b:=32) (v:=-(l.getD t 0)) af xq xq) ?_));rintro _ u14 g15 rfl;refine zyv 66 (off':=t*1) (n:=n) (off:=0) (sz:=1) (i:=(t:Int)) sl29 xq xq xq ?_;refine zyu (V:=⟨3,ics l++X⟩) (off:=t*1) (ics (l.set t (wrapW 32 (-(l.getD t 0))))++X) ty3 (by rw[List.length_append,zwi,hl];omega) (setL_intsX (z:=wrapW 32 (-(l.getD t 0))) (i:=t) (by rw[hl];omega) rfl) ?_;refine zzw ?_;refine lent_end (V:=⟨3,ics (l.set t (wrapW 32 (-(l.getD t 0))))++X⟩) rfl rfl (fun _ _=>?_);rw[(shF_n ab)]
 have ab:¬sh=(-2):=by simpa using ad
 refine zzd (zzy [0,1,0,0,8,28,60,127,0,256,1023,2047] [(0,[]),(1,[]),(2,[]),(3,[]),(4,[]),(5,[]),(6,[]),(7,[]),(8,[]),(9,[]),(10,[]),(11,[])] xj xj (zza 9 (.adr 4 2) (zzh 10 (zI cf) ty3 zzk (zza 11 (.slc 67 0 n c) (zza 12 (.adr 4 1) (zzh 13 (zI f) ty3 zzk (zyv 14 (off':=f*1) (n:=n) (off:=0) (sz:=1) (i:=(f:Int)) sl29 xq xq xq ?_)))))));refine zzh 15 (V:=⟨3,ics l++X⟩) (off:=f*1) (zI (l.getD f 0)) ty3 (part_intsX (l:=l) (i:=f) (by rw[hl];omega) rfl) (zyp 16 (x:=zI (IntKind.i64.wrap (cf*(l.getD f 0)))) (zI (cf*(l.getD f 0))) yz (zza 17 (.adr 4 3) (zzh 18 (zI sh) ty3 zzk (zzg 19 143 _ fun _ _ _ ae=>qym (k_fxShift2 (v:=cf*(l.getD f 0)) (n:=sh) ae xq xq xq xq) ?_))));rintro _ u18 g19 rfl;refine zza 6 (zI (shiftW (cf*(l.getD f 0)) sh 2)) (zzc 67 [(0,.slc 67 0 n c),(2,zI sg),(4,.adr 4 0),(6,zI (shiftW (cf*(l.getD f 0)) sh 2))] [(4,⟨28,[.int .i64 t,.int .i64 f,.int .i64 cf,.int .i64 sh]⟩),(67,⟨3,ics l++X⟩)] (zzy [0,0,2,0,0,16,56,120,0,0,768,2040,4088,8191,16383] [(0,[]),(1,[]),(2,[]),(3,[]),(4,[]),(5,[]),(6,[]),(7,[]),(8,[]),(9,[]),(10,[]),(11,[]),(12,[]),(13,[]),(14,[])] xj xj (zza 20 (.slc 67 0 n c) (zza 21 (.adr 4 0) (zzh 22 (zI t) ty3 zzk (zza 23 (.slc 67 0 n c) (zza 24 (.adr 4 0) (zzh 25 (zI t) ty3 zzk (zyv 26 (off':=t*1) (n:=n) (off:=0) (sz:=1) (i:=(t:Int)) sl29 xq xq xq ?_)))))))));refine zzh 27 (V:=⟨3,ics l++X⟩) (off:=t*1) (zI (l.getD t 0)) ty3 (part_intsX (l:=l) (i:=t) (by rw[hl];omega) rfl) (zza 28 (zI sg) (zza 29 (zI (shiftW (cf*(l.getD f 0)) sh 2)) (zyp 30 (x:=zI (IntKind.i64.wrap (sg*(shiftW (cf*(l.getD f 0)) sh 2)))) (zI (sg*(shiftW (cf*(l.getD f 0)) sh 2))) yz (zyp 31 (x:=zI (IntKind.i64.wrap ((l.getD t 0)+(sg*(shiftW (cf*(l.getD f 0)) sh 2))))) (zI ((l.getD t 0)+(sg*(shiftW (cf*(l.getD f 0)) sh 2)))) yz (zzg 32 142 _ fun _ _ _ ag=>qym (k_fxWrap (b:=32) (v:=(l.getD t 0)+(sg*(shiftW (cf*(l.getD f 0)) sh 2))) ag xq xq) ?_)))));rintro _ u22 g23 rfl;refine zyv 33 (off':=t*1) (n:=n) (off:=0) (sz:=1) (i:=(t:Int)) sl29 xq xq xq ?_;refine zyu (V:=⟨3,ics l++X⟩) (off:=t*1) (ics (l.set t (wrapW 32 ((l.getD t 0)+(sg*(shiftW (cf*(l.getD f 0)) sh 2)))))++X) ty3 (by rw[List.length_append,zwi,hl];omega) (setL_intsX (z:=wrapW 32 ((l.getD t 0)+(sg*(shiftW (cf*(l.getD f 0)) sh 2)))) (i:=t) (by rw[hl];omega) rfl) ?_;refine zzw ?_;refine lent_end (V:=⟨3,ics (l.set t (wrapW 32 ((l.getD t 0)+(sg*(shiftW (cf*(l.getD f 0)) sh 2)))))++X⟩) rfl rfl (fun _ _=>?_);rw[(shF_s aa ab)]
theorem k_formedT{u w:World}{t f cf sh n:Int}(d:Dat u w)(hs:shOK n [t,f,cf,sh]):qyc 134 #[.agg #[.int .i64 t,.int .i64 f,.int .i64 cf,.int .i64 sh],.int .i64 n] w (Post u w fun v _=>v=.bool true):=by
 obtain⟨s1,s2,s3,s4,s5,s6,s7,s8,s9,s10⟩:0≤t∧t<n∧0≤f∧f<n∧-2≤sh∧sh≤20∧(t=f↔sh=-2)∧(sh<0→cf=0)∧-2097152≤cf∧cf≤2097152:=hs;refine zzl Tryz.func134 rfl Tryz.ntmps134 Tryz.results134 d ?_;refine sq9 (zzj 2 ⟨28,[.int .i64 t,.int .i64 f,.int .i64 cf,.int .i64 sh]⟩ (zza 4 (zB false) (zzb (zzd (sq9 (zza 5 (.adr 2 0) (zzh 6 (zI t) ty3 zzk (zza 7 (zB (decide (t<0))) (zqB 8 (show(decide (t<0))=false from(decide_eq_false xq)) (zza 9 (.adr 2 0) ?_ (hw:=w1 3 false 8)))))))))));refine zzh 10 (zI t) ty3 zzk ?_ (hw:=w1 3 false 8);refine zza 11 (zI n) ?_ (hw:=w1 3 false 8);refine zza 12 (zB (decide (n≤t))) ?_ (hw:=w1 3 false 8);refine zza 13 (zB (decide (n≤t))) (zqB 14 (show(decide (n≤t))=false from(decide_eq_false xq)) (zza 15 (.adr 2 1) ?_ (hw:=w1 9 false 14)));refine zzh 16 (zI f) ty3 zzk ?_ (hw:=w1 9 false 14);refine zza 17 (zB (decide (f<0))) ?_ (hw:=w1 9 false 14);refine zza 18 (zB (decide (f<0))) (zqB 19 (show(decide (f<0))=false from(decide_eq_false xq)) (zza 20 (.adr 2 1) ?_ (hw:=w1 14 false 19)));refine zzh 21 (zI f) ty3 zzk ?_ (hw:=w1 14 false 19);refine zza 22 (zI n) ?_ (hw:=w1 14 false 19);refine zza 23 (zB (decide (n≤f))) ?_ (hw:=w1 14 false 19);refine zza 24 (zB (decide (n≤f))) (zzb (zzt (b:=decide (n≤f)) xj (fun hb=>?_) (fun hb=>?_)))
 ·exact absurd hb (by rw[show(decide (n≤f))=false from(decide_eq_false xq)];decide)
 clear hb;refine zzr (zzo ?_);refine zzd (sq9 (zza 25 (.adr 2 3) (zzh 26 (zI sh) ty3 zzk (zza 27 (zB (decide (sh<(-2)))) (zqB 28 (show(decide (sh<(-2)))=false from(decide_eq_false xq)) (zza 29 (.adr 2 3) ?_ (hw:=w1 3 false 28)))))));refine zzh 30 (zI sh) ty3 zzk ?_ (hw:=w1 3 false 28);refine zza 31 (zB (decide ((20:Int)<sh))) ?_ (hw:=w1 3 false 28);refine zza 32 (zB (decide ((20:Int)<sh))) (zzb (zzt (b:=decide ((20:Int)<sh)) xj (fun hb=>?_) (fun hb=>?_)))
 ·exact absurd hb (by rw[show(decide ((20:Int)<sh))=false from(decide_eq_false xq)];decide)
 clear hb;refine zzr (zzo ?_);refine zzd (sq9 (zza 33 (.adr 2 0) (zzh 34 (zI t) ty3 zzk (zza 35 (.adr 2 1) (zzh 36 (zI f) ty3 zzk (zza 37 (zB (t==f)) (zza 38 (.adr 2 3) (zzh 39 (zI sh) ty3 zzk (zza 40 (zB (sh==(-2))) (zza 41 (zB (!((t==f)==(sh==(-2))))) (zzc 56 [(2,.adr 2 0),(41,zB (!((t==f)==(sh==(-2)))))] [(2,⟨28,[.int .i64 t,.int .i64 f,.int .i64 cf,.int .i64 sh]⟩)] ?_)))))))))));refine zzt (b := !((t==f)==(sh==(-2)))) xj (fun hb=>?_) (fun hb=>?_)
 ·exact absurd hb (by rw[show(!((t==f)==(sh==(-2))))=false from(by rw[ne_pair];exact decide_eq_false xq)];decide)
 clear hb;refine zzr (zzo ?_);refine zzd (sq9 (zza 42 (.adr 2 3) (zzh 43 (zI sh) ty3 zzk (zza 44 (zB (decide (sh<0))) (zzb (zzt (b:=decide (sh<0)) xj (fun aa=>?_) (fun aa=>?_)))))))
 ·have qhb15:=qyt aa;refine sq9 (zza 45 (.adr 2 2) (zzh 46 (zI cf) ty3 zzk (zza 47 (zB (cf==0)) (zza 4 (zB (cf==0)) (zzb (zzn (zzv (ret0 [.bool (cf==0)] ⟨zzp,trivial⟩ fun u16 e17=>?_))))))));show Value.bool _=Value.bool true;rw[show(cf==0)=true from by rw[beq_iff_eq];omega]
 have qhb15:=qyf aa;refine zzr (zzo ?_);refine sq9 (zza 48 (.adr 2 2) (zzh 49 (zI cf) ty3 zzk (zza 50 (zB (decide (((-2097152):Int)≤cf))) (zqB 51 (show(decide (((-2097152):Int)≤cf))=true from(decide_eq_true xq)) (zza 52 (.adr 2 2) ?_ (hw:=w1 3 true 51))))));refine zzh 53 (zI cf) ty3 zzk ?_ (hw:=w1 3 true 51);refine zza 54 (zB (decide (cf≤2097152))) ?_ (hw:=w1 3 true 51);refine zza 55 (zB (decide (cf≤2097152))) (zza 4 (zB (decide (cf≤2097152))) (zzb (zzn (ret0 [.bool (decide (cf≤2097152))] ⟨zzp,trivial⟩ fun u19 e20=>?_))));show Value.bool _=Value.bool true;rw[show(decide (cf≤2097152))=true from decide_eq_true xq]
theorem k_dvalidT{u w:World}{x:Sl}{S:List (List Int)}{n:Int}(d:Dat u w)(hx:IrV 4 u x S)(hV:shV n S):qyc 68 #[x.v,.int .i64 n] w (Post u w fun v _=>v=.bool true):=by
 have hlx:x.n=S.length:=hx.len;have v1:=hV.1;have v2:=hV.2.1;have v3:=hV.2.2.1;refine zzl Tryz.func68 rfl Tryz.ntmps68 Tryz.results68 d ?_;refine sq9 (zza 4 (zB false) (zzb (zzd (sq9 (zza 7 (zI n) (zza 8 (zB (decide (n<1))) (zqB 9 (show(decide (n<1))=false from(decide_eq_false xq)) (zza 10 (zI n) ?_ (hw:=w1 2 false 9)))))))));refine zza 11 (zB (decide ((64:Int)<n))) ?_ (hw:=w1 2 false 9);refine zza 12 (zB (decide ((64:Int)<n))) (zqB 13 (show(decide ((64:Int)<n))=false from(decide_eq_false xq)) (zza 14 (.v (x.v)) ?_ (hw:=w1 6 false 13)));refine zza 15 (zI x.n) ?_ (hw:=w1 6 false 13);refine zza 16 (zB (decide ((64:Int)<(x.n:Int)))) ?_ (hw:=w1 6 false 13);refine zza 17 (zB (decide ((64:Int)<(x.n:Int)))) (zzb (zzt (b:=decide ((64:Int)<(x.n:Int))) xj (fun hb=>?_) (fun hb=>?_)))
 ·exact absurd hb (by rw[show(decide ((64:Int)<(x.n:Int)))=false from(decide_eq_false xq)];decide)
 clear hb;refine zzr (zzo ?_);refine zzd (sq9 (zza 18 (.v (x.v)) (zza 19 (zI x.n) (zza 20 (zI 0) (zzb (zzs (zym (I:=fun af S' u'=>∃(i:Nat),(af=S.length-i)∧(i≤S.length)∧(S'=St.of 29 [(1,zI n),(18,.v (x.v)),(19,zI x.n),(20,zI i)] [])∧(Ext u u')) (fun m S u1 u2 e h=>by obtain⟨i,hm,p0,hS,hE⟩:=h;exact⟨i,hm,p0,hS,hE.trans e⟩) _ yq ⟨0,rfl,by omega,rfl,(Ext.refl _)⟩ ?_)))))));rintro af _ u13 ⟨i,ah,hi,rfl,ab⟩;refine sq9 (zza 21 (zB (decide ((i:Int)<(x.n:Int)))) (zzb (zzd (zzt (b:=decide ((i:Int)<(x.n:Int))) xj (fun aa=>?_) (fun aa=>?_)))))
 ·have qhb14:=qyt aa;refine zzr (zzo ?_);refine zzd (zzs (sq9 ?_));have hl15:=((hx.ext ab)).len;obtain⟨b15,ae,ad,ac⟩:=ir_at4 (hx.ext ab) (i:=i) xq;refine zzz 22 (ae+i*4) (n:=x.n) (off:=ae) (sz:=4) (i:=(i:Int)) xq ad xq xq sl22 (zyl 23 [.int .i64 (gi S i 0),.int .i64 (gi S i 1),.int .i64 (gi S i 2),.int .i64 (gi S i 3)] ac ty28 (zzj 6 ⟨28,[.int .i64 0,.int .i64 0,.int .i64 0,.int .i64 0]⟩ (zzi ⟨28,[.int .i64 (gi S i 0),.int .i64 (gi S i 1),.int .i64 (gi S i 2),.int .i64 (gi S i 3)]⟩ ty28 ?_)));refine zzb (sq9 (zzh 24 (.v (.agg #[.int .i64 (gi S i 0),.int .i64 (gi S i 1),.int .i64 (gi S i 2),.int .i64 (gi S i 3)])) ty28 zze (zza 25 (zI n) (zzg 26 134 _ fun _ _ ai aj=>qym (k_formedT (t:=gi S i 0) (f:=gi S i 1) (cf:=gi S i 2) (sh:=gi S i 3) (n:=n) aj (by have h9:=hV.2.2.2 i xq;rw[row4 hx.rows xq] at h9;exact h9)) ?_))));rintro _ u17 ag rfl;refine zza 27 (zB false) (zzb (zyr xj (zzr (zzo ?_))));refine zzf (qwi 28 ((i:Int)+1) (i+1:Nat) xk (zza 20 (zI (i+1:Nat)) (zzw ?_)));refine⟨_,?_,_,by exact zzu _ _ _,i+1,rfl,by omega,rfl,(ab.t (ai.t ag.ext))⟩
  omega
 have qhb14:=qyf aa;refine zyb (zzo (sq9 (zza 4 (zB true) (zzb (zzn (ret0 [.bool true] ⟨zzp,trivial⟩ fun u20 e21=>?_))))))
 rfl
theorem k_dcheckT{u w:World}{x y:Sl}{S:List (List Int)}{l:List Int}(d:Dat u w)(hx:IrV 4 u x S)(hy:SlR .i64 u y.a y.n y.c l)(hb:∀z∈l,-9223372036854775808≤z∧z≤9223372036854775807)(hE:chkE S l=0)(h8:l.length≤1000000):qyc 86 #[x.v,y.v] w (Post u w fun v _=>v=.int .i64 0):=by
 have hlx:x.n=S.length:=hx.len;have hly:l.length=y.n:=hy.1;obtain⟨hV,hW⟩:=chk_0 hE;refine zzl Tryz.func86 rfl Tryz.ntmps86 Tryz.results86 d ?_;refine sq9 (zza 4 (zI 0) (zzb (zzd (sq9 (zza 7 (.v (x.v)) (zza 8 (.v (y.v)) (zza 9 (zI y.n) (zzg 10 68 _ fun _ _ ab an=>qym (k_dvalidT (x:=x) (n:=(y.n:Int)) an (hx.ext ab) (by rw[show(y.n:Int)=(l.length:Int) by omega];exact hV)) ?_))))))));rintro _ ak ag rfl;refine zza 11 (zB false) (zzb (zyr xj (zzr (zzo ?_))));refine zzd (sq9 (zza 12 (.v (y.v)) (zza 13 (zI y.n) (zza 14 (zI 0) (zzb (zzs (zym (I:=fun ah S' u'=>∃(i:Nat),(ah=l.length-i)∧(i≤l.length)∧(S'=St.of 23 [(12,.v (y.v)),(13,zI y.n),(14,zI i)] [])∧(Ext ak u')) (fun m S u1 u2 e h=>by obtain⟨i,hm,p0,hS,hE⟩:=h;exact⟨i,hm,p0,hS,hE.trans e⟩) _ yq ⟨0,rfl,by omega,rfl,(Ext.refl _)⟩ ?_)))))));rintro ah _ u15 ⟨i,am,hi,rfl,ac⟩;refine sq9 (zza 15 (zB (decide ((i:Int)<(y.n:Int)))) (zzb (zzd (zzt (b:=decide ((i:Int)<(y.n:Int))) xj (fun aa=>?_) (fun aa=>?_)))))
 ·have qhb16:=qyt aa;refine zzr (zzo ?_);refine zzd (zzs (sq9 ?_));have hl17:=((hy.ext (ab.t (ag.t ac)))).1;obtain⟨b17,af,ad,ae⟩:=ints_at (hy.ext (ab.t (ag.t ac))) (i:=i) xq;have hz17:=ints_bd hb xq i;refine zzz 16 (af+i*1) (n:=y.n) (off:=af) (sz:=1) (i:=(i:Int)) xq ad xq xq sl29 (zyk 17 (.int .i64 (l.getD i 0)) ae ty3 (zza 6 (zI (l.getD i 0)) (zzb (sq9 (zza 18 (zI (l.getD i 0)) (zza 19 (zI (l.getD i 0)) (zzg 20 142 _ fun _ _ ai aj=>qym (k_fxWrap (b:=32) (v:=(l.getD i 0)) aj xq xq) ?_)))))));rintro _ u19 al rfl;refine zza 21 (zB ((l.getD i 0) != (wrapW 32 (l.getD i 0)))) (zzb (zzt (b:=(l.getD i 0) != (wrapW 32 (l.getD i 0))) xj (fun hb=>?_) (fun hb=>?_)))
  ·exact absurd hb (by rw[show((l.getD i 0) != (wrapW 32 (l.getD i 0)))=false from(by rw[wrap_ne,decide_eq_true (hW i xq)];rfl)];decide)
  clear hb;refine zzr (zzo ?_);refine zzf (qwi 22 ((i:Int)+1) (i+1:Nat) xk (zza 14 (zI (i+1:Nat)) (zzw ?_)));refine⟨_,?_,_,by exact zzu _ _ _,i+1,rfl,by omega,rfl,(ac.t (ai.t al.ext))⟩
  omega
 have qhb16:=qyf aa;refine zyb (zzo (sq9 (zza 4 (zI 0) (zzb (zzn (ret0 [.int .i64 0] ⟨zzp,trivial⟩ fun u22 e23=>?_))))))
 rfl
theorem k_dforwardT{u w:World}{x y:Sl}{S:List (List Int)}{l:List Int}(d:Dat u w)(hx:IrV 4 u x S)(hE:chkE S l=0)(hy:SlR .i64 u y.a y.n y.c l)(hb:∀z∈l,-9223372036854775808≤z∧z≤9223372036854775807)(h8:l.length≤1000000):qyc 39 #[x.v,y.v] w (Post u w fun v u'=>∃z:Sl,v=.tuple #[z.v,.int .i64 0]∧SlR .i64 u' z.a z.n z.c (fwdL S l)):=by
 have hlx:x.n=S.length:=hx.len;have hly:l.length=y.n:=hy.1;obtain⟨hV,hW⟩:=chk_0 hE;have hV1:=hV.1;have hV2:=hV.2.1;have hV3:=hV.2.2.1;refine zzl Tryz.func39 rfl Tryz.ntmps39 Tryz.results39 d ?_;refine sq9 (zza 4 (.v (qyn)) (zza 5 (zI 0) (zzb (zzd (sq9 (zza 10 (.v (x.v)) (zza 11 (.v (y.v)) (zzg 12 86 _ fun _ _ ad aH=>qym (k_dcheckT (x:=x) (y:=y) aH (hx.ext ad) (hy.ext ad) hb hE xq) ?_))))))));rintro _ u12 al rfl;refine zza 6 (zI 0) (zzb (sq9 (zza 13 (zI 0) (zza 14 (zB false) (zzb (zyr xj (zzr (zzo ?_))))))));refine sq9 (zza 16 (.v (y.v)) (zzg 17 87 _ fun _ _ ak az=>qym (k_cloneI (x:=y) az (hy.ext xe) xq xq) ?_));rintro _ u24 aw ⟨ax,aa,aj,rfl,ac,ap,af,ag,ah⟩;refine zza 7 (.v (.slice (some ⟨ax,0,none⟩) y.n aa)) (zzb (zzd (zzd (sw_adopt (r:=7) (k:=7) (cs:=ics l++aj) (by rfl) ap (Nat.le_trans ((ad.t (al.t ak)).size) ac) xj (fun aG ae=>?_)))));refine zzf (zza 18 (.v (x.v)) (zza 19 (zI x.n) (zza 20 (zI 0) (zzb (zzs (zym (I:=fun au S' u'=>∃(i:Nat),(au=S.length-i)∧(i≤S.length)∧(S'=St.of 29 [(7,.slc 7 0 y.n aa),(18,.v (x.v)),(19,zI x.n),(20,zI i)] [(7,⟨3,ics (shFs (S.take i) l)++aj⟩)])∧(Ext aG u')) (fun m S u1 u2 e h=>by obtain⟨i,hm,p0,hS,hE⟩:=h;exact⟨i,hm,p0,hS,hE.trans e⟩) _ yq ⟨0,rfl,by omega,rfl,(Ext.refl _)⟩ ?_))))));rintro au _ aD ⟨i,ay,hi,rfl,am⟩;refine sq9 (zza 21 (zB (decide ((i:Int)<(x.n:Int)))) (zzb (zzd (zzt (b:=decide ((i:Int)<(x.n:Int))) xj (fun ab=>?_) (fun ab=>?_)))))
 ·have qhb30:=qyt ab;refine zzr (zzo ?_);refine zzd (zzs (sq9 ?_));have hl31:=((hx.ext (ad.t (al.t (ak.trans ((ExtB.old ae aw.ext ac).trans am)))))).len;obtain⟨b31,av,ao,aq⟩:=ir_at4 (hx.ext (ad.t (al.t (ak.trans ((ExtB.old ae aw.ext ac).trans am))))) (i:=i) xq;refine zzz 22 (av+i*4) (n:=x.n) (off:=av) (sz:=4) (i:=(i:Int)) xq ao xq xq sl22 (zyl 23 [.int .i64 (gi S i 0),.int .i64 (gi S i 1),.int .i64 (gi S i 2),.int .i64 (gi S i 3)] aq ty28 (zzj 9 ⟨28,[.int .i64 0,.int .i64 0,.int .i64 0,.int .i64 0]⟩ (zzi ⟨28,[.int .i64 (gi S i 0),.int .i64 (gi S i 1),.int .i64 (gi S i 2),.int .i64 (gi S i 3)]⟩ ty28 ?_)));refine zzb ?_;have hsO:=hV.2.2.2 i xq;rw[row4 hx.rows xq] at hsO;obtain⟨tz,htz⟩:∃t:Nat,gi S i 0=(t:Int):=⟨(gi S i 0).toNat,by have h9:0≤gi S i 0:=hsO.1;omega⟩
  obtain⟨fz,hfz⟩:∃t:Nat,gi S i 1=(t:Int):=⟨(gi S i 1).toNat,by have h9:0≤gi S i 1:=hsO.2.2.1;omega⟩
  rw[htz,hfz];rw[htz,hfz] at hsO;refine zzf (zza 24 (.slc 7 0 y.n aa) (zzh 25 (.v (.agg #[.int .i64 tz,.int .i64 fz,.int .i64 (gi S i 2),.int .i64 (gi S i 3)])) ty28 zze ?_));have kc32:=fun(g:Nat) (w u1:World) (e:Ext aD u1) (d:Dat u1 w) (hg:w.heap[g]? = some (.cells (ics (shFs (S.take i) l)++aj).toArray 3 (0,0))) (hu:u1.heap[g]? = some hidO)=>k_perform (n:=y.n) (c:=aa) (t:=tz) (f:=fz) (cf:=gi S i 2) (sh:=gi S i 3) (sg:=1) d hg hu (shFs_len.trans hly) (shFs_w32 hW) xq (by rw[show((y.n:Nat):Int)=(l.length:Int) by omega];exact hsO) xw;refine sy_lend 26 88 (t:=7) (V:=⟨3,ics (shFs (S.take i) l)++aj⟩) (len:=y.n) (cap:=aa) [.agg #[.int .i64 tz,.int .i64 fz,.int .i64 (gi S i 2),.int .i64 (gi S i 3)],.int .i64 1] xj kc32 ?_;clear kc32;rintro _ u32 aE rfl;refine zzw ?_;refine zzo (zzf (qwi 27 ((i:Int)+1) (i+1:Nat) xk (zza 20 (zI (i+1:Nat)) (zzw ?_))));have aA:shFs (S.take (i+1)) l=shF [(tz:Int),(fz:Int),gi S i 2,gi S i 3] 1 (shFs (S.take i) l):=by rw[shFs_snoc S i xq,row4 hx.rows xq,htz,hfz]
  rw[←aA];refine⟨_,?_,_,by exact zzu _ _ _,i+1,rfl,by omega,rfl,(am.trans aE)⟩
  omega
 have qhb30:=qyf ab;refine zyb (zzo (zzd (zyo (r:=7) (t:=7) [7] xz xj (by rfl) (by rfl) xj (fun ai aF e35 aB an=>?_))));have ar:SlR .i64 aF (some ⟨ai,0,none⟩) y.n aa (shFs (S.take i) l):=ints_dataX an (shFs_len.trans hly) af ag ah;refine zzf (zza 28 (.v (.slice (some ⟨ai,0,none⟩) y.n aa)) (zza 4 (.v (.slice (some ⟨ai,0,none⟩) y.n aa)) (zza 5 (zI 0) (zzb (zzn (ret0 [.slice (some ⟨ai,0,none⟩) y.n aa,.int .i64 0] ⟨zzp,zzp,trivial⟩ fun u39 aI=>?_))))));rw[show fwdL S l=shFs S l from if_pos hE];refine⟨(⟨some ⟨ai,0,none⟩,y.n,aa⟩:Sl),rfl,?_⟩;have h7:=(ar.ext aI)
 rw[show i=S.length by omega,List.take_length] at h7;exact h7
namespace Nt
def flr(q:Rat):Int:=q.num/(q.den:Int)
def dnQ(q:Rat)(k:Nat):Rat:=mkRat (flr (q*((2^k:Nat):Rat))) (2^k)
theorem flr_mk{z:Int}{D:Nat}(hD:0<D):flr (mkRat z D)=z/(D:Int):=by
 have h1:mkRat z D=mkRat (mkRat z D).num (mkRat z D).den:=(Rat.mkRat_self _).symm;rw[Rat.mkRat_eq_iff xq (by have:=(mkRat z D).den_pos;omega)] at h1;have hd:=(mkRat z D).den_pos
 unfold flr
 generalize (mkRat z D).num=n at *;generalize (mkRat z D).den=d at *;have e1:z/(D:Int)=((d:Int)*z)/((d:Int)*(D:Int)):=(Int.mul_ediv_mul_of_pos _ _ xq).symm;have e2:n/(d:Int)=((D:Int)*n)/((D:Int)*(d:Int)):=(Int.mul_ediv_mul_of_pos _ _ xq).symm;rw[e1,e2,Int.mul_comm (d:Int) z,h1,Int.mul_comm n,Int.mul_comm (d:Int)]
theorem shl_mk(z:Int)(D m:Nat):mkRat z D*((m:Nat):Rat)=mkRat (z*(m:Int)) D:=by
 rw[Rat.mkRat_eq_div,Rat.mkRat_eq_div,Rat.intCast_mul];show(z:Rat)/(D:Rat)*(m:Rat)=(z:Rat)*((m:Int):Rat)/(D:Rat);have:((m:Int):Rat)=(m:Rat):=rfl;rw[this]
 grind
theorem dn_mk{z:Int}{D k:Nat}(hD:0<D):dnQ (mkRat z D) k=mkRat ((z*((2^k:Nat):Int))/(D:Int)) (2^k):=by
 unfold dnQ
 rw[shl_mk,flr_mk hD]
theorem sg_mulN{s:Bool}{N m:Nat}:sg s ((sg s N).natAbs*m)=sg s N*(m:Int):=by
 rw[sg_abs]
 unfold sg
 cases s
 ·simp
 simp[Int.neg_mul]
theorem rdiv0{s:Bool}{N D:Nat}(hD:0<D)(h:¬(s=true∧0<N%D)):sg s N/(D:Int)=sg (!(s==false)) (N/D)∧sg s N%(D:Int)=sg false (N%D):=by
 have hm:=Nat.mod_lt N hD;have hk:=Nat.div_add_mod N D;have hk2:(N:Int)=(D:Int)*((N/D:Nat):Int)+((N%D:Nat):Int):=by rw[←Int.natCast_mul,←Int.natCast_add,hk]
 apply ediv_uniq xq
 ·unfold sg
  cases s
  ·simpa using hk2
  have h0:N%D=0:=by simp at h;omega
  rw[h0] at hk2 ⊢;generalize N/D=Q at *
  simp[Int.mul_neg]
  omega
 ·unfold sg;simp;omega
 unfold sg;simp;omega
theorem rdiv1{N D:Nat}(hD:0<D)(h:0<N%D):sg true N/(D:Int)=sg (!(true==false)) (N/D+1)∧sg true N%(D:Int)=sg false (D-N%D):=by
 have hm:=Nat.mod_lt N hD;have hk:=Nat.div_add_mod N D;have hk2:(N:Int)=(D:Int)*((N/D:Nat):Int)+((N%D:Nat):Int):=by rw[←Int.natCast_mul,←Int.natCast_add,hk]
 apply ediv_uniq xq
 ·unfold sg
  simp
  rw[show((N:Int)/(D:Int))=((N/D:Nat):Int) from rfl,show((D-N%D:Nat):Int)=(D:Int)-((N%D:Nat):Int) by omega,Int.mul_neg,Int.mul_add]
  omega
 ·unfold sg;simp
 unfold sg;simp;omega
end Nt
end Go.Proofs.YtcpnfblekhgmgaaGreat
namespace Go.Proofs.YtcpnfblekhgmgaaGreat
open Nt
namespace Nt
def sgn(j:Nat):Rat:=if j%2=0 then 1 else -1
theorem sgn_s(j:Nat):sgn (j+1)=-sgn j:=by
 unfold sgn
 rcases Nat.mod_two_eq_zero_or_one j with h|h
 ·rw[if_pos h,if_neg (show ¬(j+1)%2=0 by omega)]
 rw[if_neg (show ¬j%2=0 by omega),if_pos (show(j+1)%2=0 by omega)];rfl
theorem sgn_or(j:Nat):sgn j=1∨sgn j=-1:=by unfold sgn;split<;>simp
def alt(a:Nat→Rat):Nat→Rat
 | 0=>0
 | n+1=>alt a n+sgn n*a n
theorem alt_s(a:Nat→Rat)(n:Nat):alt a (n+1)=alt a n+sgn n*a n:=rfl
theorem alt_tail{a:Nat→Rat}{j0:Nat}(h0:∀j,0≤a j)(hd:∀j,j0≤j→a (j+1)≤a j):∀d j,j0≤j→0≤sgn j*(alt a (j+d)-alt a j)∧sgn j*(alt a (j+d)-alt a j)≤a j:=by
 intro d
 induction d with
 | zero=>intro j _;have:=h0 j;rw[Nat.add_zero,Rat.sub_self,Rat.mul_zero];exact⟨Rat.le_refl,this⟩
 | succ d ih=>
  intro j hj;have h1:=ih (j+1) xq;have h2:=hd j hj;have h3:=h0 (j+1);rw[show j+1+d=j+(d+1) by omega,sgn_s,alt_s] at h1;generalize alt a (j+(d+1))=x at *;generalize alt a j=y at *
  rcases sgn_or j with e|e<;>rw[e] at h1 ⊢ <;> grind
theorem alt_near{a:Nat→Rat}{j0 j m:Nat}(h0:∀j,0≤a j)(hd:∀j,j0≤j→a (j+1)≤a j)(hj:j0≤j)(hm:j≤m):alt a j-a j≤alt a m∧alt a m≤alt a j+a j:=by
 obtain⟨d,rfl⟩:∃d,m=j+d:=⟨m-j,by omega⟩
 have h1:=alt_tail h0 hd d j hj
 rcases sgn_or j with e|e<;>rw[e] at h1<;>grind
theorem div_nn{x y:Rat}(hx:0≤x)(hy:0<y):0≤x/y:=by
 rw[Rat.div_def];exact Rat.mul_nonneg hx (Rat.le_of_lt (Rat.inv_pos.2 hy))
theorem div_mul_c{x y:Rat}(hy:0<y):x/y*y=x:=by
 rw[Rat.div_def,Rat.mul_assoc,Rat.inv_mul_cancel _ (by grind),Rat.mul_one]
theorem le_dv{x y z:Rat}(hy:0<y)(h:x*y≤z):x≤z/y:=by
 refine Rat.le_of_mul_le_mul_right (c:=y) ?_ hy;rw[div_mul_c hy];exact h
theorem dv_le{x y z:Rat}(hy:0<y)(h:z≤x*y):z/y≤x:=by
 refine Rat.le_of_mul_le_mul_right (c:=y) ?_ hy;rw[div_mul_c hy];exact h
theorem div_le_self{x y:Rat}(hx:0≤x)(hy:1≤y):x/y≤x:=by
 refine dv_le (by grind) ?_;have:=Rat.mul_le_mul_of_nonneg_left (a:=1) (b:=y) (c:=x) hy hx
 grind
theorem div_mono{x x' y:Rat}(hy:0<y)(h:x≤x'):x/y≤x'/y:=by
 refine le_dv hy ?_;rw[div_mul_c hy];exact h
theorem mulm{a b c d:Rat}(h1:a≤b)(h2:c≤d)(h3:0≤a)(h4:0≤c):a*c≤b*d:=
 Rat.le_trans (Rat.mul_le_mul_of_nonneg_right h1 h4) (Rat.mul_le_mul_of_nonneg_left h2 (Rat.le_trans h3 h1))
def atP(n:Nat):Nat→Rat
 | 0=>1/(n:Rat)
 | j+1=>atP n j/((n*n:Nat):Rat)
def atT(n j:Nat):Rat:=atP n j/((2*j+1:Nat):Rat)
theorem cast_pos{n:Nat}(h:0<n):(0:Rat)<(n:Rat):=by
 have:((0:Nat):Rat)<(n:Rat):=Rat.natCast_lt_natCast.2 h;exact this
theorem cast_one{n:Nat}(h:0<n):(1:Rat)≤(n:Rat):=by
 have:((1:Nat):Rat)≤(n:Rat):=Rat.natCast_le_natCast.2 h;exact this
theorem atP_nn{n:Nat}(hn:0<n):∀j,0≤atP n j
 | 0=>div_nn xw (cast_pos hn)
 | j+1=>div_nn (atP_nn hn j) (cast_pos (Nat.mul_pos hn hn))
theorem atT_nn{n:Nat}(hn:0<n)(j:Nat):0≤atT n j:=div_nn (atP_nn hn j) (cast_pos xq)
theorem atP_le{n:Nat}(hn:0<n)(j:Nat):atP n (j+1)≤atP n j:=div_le_self (atP_nn hn j) (cast_one (Nat.mul_pos hn hn))
theorem atT_le{n:Nat}(hn:0<n)(j:Nat):atT n (j+1)≤atT n j:=by
 have h1:=atP_le hn j;have h2:=atP_nn hn (j+1);refine Rat.le_trans (b:=atP n (j+1)/((2*j+1:Nat):Rat)) ?_ (div_mono (cast_pos xq) h1);refine dv_le (cast_pos xq) ?_;have h3:((2*j+1:Nat):Rat)≤((2*(j+1)+1:Nat):Rat):=Rat.natCast_le_natCast.2 xq;have h4:=Rat.mul_le_mul_of_nonneg_left (c:=atP n (j+1)/((2*j+1:Nat):Rat)) h3 (div_nn h2 (cast_pos xq));rw[div_mul_c (cast_pos xq)] at h4;exact h4
def piN(m:Nat):Rat:=16*alt (atT 5) m-4*alt (atT 239) m
theorem atT_b{n:Nat}(hn:0<n){m:Nat}(hm:1≤m):atT n 0-atT n 1≤alt (atT n) m∧alt (atT n) m≤atT n 0:=by
 obtain⟨d,rfl⟩:∃d,m=1+d:=⟨m-1,by omega⟩
 have h1:=alt_tail (j0:=0) (atT_nn hn) (fun j _=>atT_le hn j) d 1 xq;have h2:alt (atT n) 1=atT n 0:=by show 0+(1:Rat)*atT n 0=_;grind
 have h3:sgn 1=-1:=rfl;rw[h2,h3] at h1
 grind
theorem piN_b{m:Nat}(hm:1≤m):157/50≤piN m∧piN m≤16/5:=by
 have h1:=atT_b (n:=5) xw hm;have h2:=atT_b (n:=239) xw hm;have e1:atT 5 0=1/5:=by decide +kernel
 have e2:atT 5 1=1/375:=by decide +kernel
 have e3:atT 239 0=1/239:=by decide +kernel
 have e4:atT 239 0-atT 239 1≥0:=by decide +kernel
 unfold piN
 rw[e1,e2] at h1;rw[e3] at h2 e4
 constructor
 ·have:(157/50:Rat)≤16*(1/5-1/375)-4*(1/239):=by decide +kernel
  grind
 have:(16:Rat)*(1/5)≤16/5:=by decide +kernel
 grind
def csT(y:Rat):Nat→Rat
 | 0=>1
 | j+1=>csT y j*(y*y)/(((2*j+2)*(2*j+1):Nat):Rat)
theorem csq_nn(y:Rat):0≤y*y:=by
 rcases Rat.le_total (a:=0) (b:=y) with h|h
 ·exact Rat.mul_nonneg h h
 have h1:0≤-y:=by grind
 have h2:=Rat.mul_nonneg h1 h1
 grind
theorem csT_nn(y:Rat):∀j,0≤csT y j
 | 0=>by show(0:Rat)≤1;decide
 | j+1=>div_nn (Rat.mul_nonneg (csT_nn y j) (csq_nn y)) (cast_pos (Nat.mul_pos xq xq))
theorem csT_le{y:Rat}(hy:y*y≤12):∀j,1≤j→csT y (j+1)≤csT y j:=by
 intro j hj;refine dv_le (cast_pos (Nat.mul_pos xq xq)) ?_;refine Rat.mul_le_mul_of_nonneg_left ?_ (csT_nn y j)
 have:((12:Nat):Rat)≤(((2*j+2)*(2*j+1):Nat):Rat):=Rat.natCast_le_natCast.2 (by
  have:=Nat.mul_le_mul (show 4≤2*j+2 by omega) (show 3≤2*j+1 by omega);omega)
 exact Rat.le_trans hy this
def csY(p q m:Nat):Rat:=piN m*(p:Rat)/(q:Rat)
def coN(p q m:Nat):Rat:=alt (csT (csY p q m)) m
def cdiv(b d:Int):Int:=-((-b)/d)
theorem fl_mul{a d:Int}(hd:0<d):a/d*d≤a∧a-d+1≤a/d*d:=by
 have h1:=Int.ediv_mul_le a (b:=d) xq;have h2:=Int.lt_ediv_add_one_mul_self a hd;rw[Int.add_mul,Int.one_mul] at h2
 omega
theorem cd_mul{b d:Int}(hd:0<d):b≤cdiv b d*d∧cdiv b d*d≤b+d-1:=by
 have h1:=fl_mul (a:=-b) hd
 unfold cdiv
 rw[Int.neg_mul]
 omega
theorem cd_eq0{b d:Int}(hd:0<d)(h:b%d=0):cdiv b d=b/d:=by
 have h1:=Int.emod_add_mul_ediv b d
 unfold cdiv
 have h2:-b=d*(-(b/d)):=by rw[Int.mul_neg];omega
 rw[h2,Int.mul_ediv_cancel_left _ xq];omega
theorem cd_eq1{b d:Int}(hd:0<d)(h:¬b%d=0):cdiv b d=b/d+1:=by
 have h1:=Int.emod_add_mul_ediv b d;have h2:=Int.emod_nonneg b (b:=d) xq;have h3:=Int.emod_lt_of_pos b hd;have h4:=cd_mul (b:=b) hd;have h5:b/d*d<cdiv b d*d:=by rw[Int.mul_comm];omega
 have h6:cdiv b d*d<(b/d+2)*d:=by rw[Int.add_mul,Int.mul_comm (b/d)];omega
 have h7:=Int.lt_of_mul_lt_mul_right h5 xq;have h8:=Int.lt_of_mul_lt_mul_right h6 xq
 omega
theorem cd_width{a b d:Int}(hd:0<d):(cdiv b d-a/d)*d≤b-a+2*d-2:=by
 have h1:=fl_mul (a:=a) hd;have h2:=cd_mul (b:=b) hd;rw[Int.sub_mul];omega
theorem cast_mul_le{a b c:Int}(h:a*b≤c):(a:Rat)*(b:Rat)≤(c:Rat):=by
 have:=Rat.intCast_le_intCast.2 h
 rwa [Rat.intCast_mul] at this
theorem castI_pos{d:Int}(h:0<d):(0:Rat)<(d:Rat):=by
 have:=Rat.intCast_lt_intCast.2 h;exact this
theorem fl_le{a d:Int}{z:Rat}(hd:0<d)(h:(a:Rat)≤z):((a/d:Int):Rat)≤z/(d:Rat):=by
 refine le_dv (castI_pos hd) (Rat.le_trans (cast_mul_le (fl_mul (a:=a) hd).1) h)
theorem le_ce{b d:Int}{z:Rat}(hd:0<d)(h:z≤(b:Rat)):z/(d:Rat)≤((cdiv b d:Int):Rat):=by
 refine dv_le (castI_pos hd) (Rat.le_trans h ?_);have:=Rat.intCast_le_intCast.2 (cd_mul (b:=b) hd).1
 rwa [Rat.intCast_mul] at this
def Enc(U:Int)(lo hi:Int)(x:Rat):Prop:=(lo:Rat)≤x*(U:Rat)∧x*(U:Rat)≤(hi:Rat)
section
variable {U a b a' b' d:Int} {x y:Rat}
theorem Enc.over(h:Enc U a b x)(hd:0<d):Enc U (a/d) (cdiv b d) (x/(d:Rat)):=by
 have h1:=fl_le hd h.1;have h2:=le_ce hd h.2;have e:x/(d:Rat)*(U:Rat)=x*(U:Rat)/(d:Rat):=by rw[Rat.div_def,Rat.div_def];grind
 unfold Enc
 rw[e];exact⟨h1,h2⟩
theorem Enc.add(h:Enc U a b x)(k:Enc U a' b' y):Enc U (a+a') (b+b') (x+y):=by
 obtain⟨h1,h2⟩:=h;obtain⟨k1,k2⟩:=k
 unfold Enc
 rw[Rat.intCast_add,Rat.intCast_add]
 constructor<;>grind
theorem Enc.sub(h:Enc U a b x)(k:Enc U a' b' y):Enc U (a-b') (b-a') (x-y):=by
 obtain⟨h1,h2⟩:=h;obtain⟨k1,k2⟩:=k
 unfold Enc
 rw[Rat.intCast_sub,Rat.intCast_sub]
 constructor<;>grind
theorem Enc.times{n:Nat}(h:Enc U a b x):Enc U (a*(n:Int)) (b*(n:Int)) (x*(n:Rat)):=by
 obtain⟨h1,h2⟩:=h
 have hn:(0:Rat)≤(n:Rat):=by
  have:((0:Nat):Rat)≤(n:Rat):=Rat.natCast_le_natCast.2 (Nat.zero_le n);exact this
 have k1:=Rat.mul_le_mul_of_nonneg_right h1 hn;have k2:=Rat.mul_le_mul_of_nonneg_right h2 hn;have e:(((n:Nat):Int):Rat)=(n:Rat):=rfl
 unfold Enc
 rw[Rat.intCast_mul,Rat.intCast_mul,e]
 constructor<;>grind
theorem Enc.near{r:Rat}(h:Enc U a b x)(h1:x-r≤y)(h2:y≤x+r)(hr:r*(U:Rat)≤1)(hU:0<U):Enc U (a-1) (b+1) y:=by
 obtain⟨k1,k2⟩:=h;have k3:=Rat.mul_le_mul_of_nonneg_right h1 (Rat.le_of_lt (castI_pos hU));have k4:=Rat.mul_le_mul_of_nonneg_right h2 (Rat.le_of_lt (castI_pos hU))
 unfold Enc
 rw[Rat.intCast_sub,Rat.intCast_add];have e:((1:Int):Rat)=1:=rfl;rw[e]
 constructor<;>grind
theorem Enc.prod(h:Enc U a b x)(k:Enc U a' b' y)(ha:0≤a)(ha':0≤a')(hU:0<U):Enc U (a*a'/U) (cdiv (b*b') U) (x*y):=by
 obtain⟨h1,h2⟩:=h;obtain⟨k1,k2⟩:=k;have za:(0:Rat)≤(a:Rat):=Rat.intCast_le_intCast.2 ha;have za':(0:Rat)≤(a':Rat):=Rat.intCast_le_intCast.2 ha';have m1:=mulm h1 k1 za za';have m2:=mulm h2 k2 (Rat.le_trans za h1) (Rat.le_trans za' k1);rw[←Rat.intCast_mul] at m1 m2;have r1:=fl_le hU m1;have r2:=le_ce hU m2
 have e:x*(U:Rat)*(y*(U:Rat))/(U:Rat)=x*y*(U:Rat):=by
  have:=castI_pos hU;rw[Rat.div_def];have e2:(U:Rat)*(U:Rat)⁻¹=1:=Rat.mul_inv_cancel _ (by grind)
  grind
 rw[e] at r1 r2;exact⟨r1,r2⟩
theorem Enc.lo_le{c:Int}(h:Enc U a b x)(hx:x*(U:Rat)≤(c:Rat)):a≤c:=Rat.intCast_le_intCast.1 (Rat.le_trans h.1 hx)
theorem Enc.le_hi{c:Int}(h:Enc U a b x)(hx:(c:Rat)≤x*(U:Rat)):c≤b:=Rat.intCast_le_intCast.1 (Rat.le_trans hx h.2)
theorem Enc.le(h:Enc U a b x):a≤b:=Rat.intCast_le_intCast.1 (Rat.le_trans h.1 h.2)
theorem Enc.nonneg(h:Enc U a b x)(hx:0≤x)(hU:0<U):0≤b:=h.le_hi (c:=0) (Rat.mul_nonneg hx (Rat.le_of_lt (castI_pos hU)))
theorem Enc.one:Enc U U U 1:=by unfold Enc;rw[Rat.one_mul];exact⟨Rat.le_refl,Rat.le_refl⟩
end
theorem fl_nn{a d:Int}(ha:0≤a)(hd:0<d):0≤a/d:=Int.ediv_nonneg ha xq
theorem cd_le{b d c:Int}(hd:0<d)(h:b≤c*d):cdiv b d≤c:=by
 have h1:=(cd_mul (b:=b) hd).2;have h2:cdiv b d*d<(c+1)*d:=by rw[Int.add_mul];omega
 have:=Int.lt_of_mul_lt_mul_right h2 xq
 omega
theorem cd_ge{b d c:Int}(hd:0<d)(h:c*d<b):c+1≤cdiv b d:=by
 have h1:=(cd_mul (b:=b) hd).1;have h2:c*d<cdiv b d*d:=by omega
 have:=Int.lt_of_mul_lt_mul_right h2 xq
 omega
theorem cd_self{b d:Int}(hb:0≤b)(hd:0<d):cdiv b d≤b:=cd_le hd (by
 have:=Int.mul_le_mul_of_nonneg_left (show 1≤d by omega) hb;omega)
theorem cd_half{b d:Int}(hb:2≤b)(hd:3≤d):2*cdiv b d≤b:=by
 have h1:=cd_mul (b:=b) (show 0<d by omega)
 rcases Int.lt_or_le b (2*cdiv b d) with h|h
 ·exfalso
  have h2:(b+1)*d≤2*cdiv b d*d:=Int.mul_le_mul_of_nonneg_right xq xq;have e:2*cdiv b d*d=2*(cdiv b d*d):=Int.mul_assoc ..;rw[Int.add_mul,Int.one_mul,e] at h2;have h3:b*3≤b*d:=Int.mul_le_mul_of_nonneg_left hd xq;have h4:(b-2)*3≤(b-2)*d:=Int.mul_le_mul_of_nonneg_left hd xq;rw[Int.sub_mul,Int.sub_mul] at h4
  omega
 exact h
theorem w3{a b d:Int}(h:b-a≤3)(hd:0<d):cdiv b d-a/d≤3:=by
 have h1:=cd_width (a:=a) (b:=b) hd
 rcases Int.lt_or_le 3 (cdiv b d-a/d) with h2|h2
 ·have h3:=Int.mul_le_mul_of_nonneg_right (show 4≤cdiv b d-a/d by omega) (show 0≤d by omega)
  omega
 exact h2
end Nt
namespace Nt
def u2(w:Nat):Int:=((2^w:Nat):Int)
theorem u2_pos(w:Nat):0<u2 w:=by
 have:=Nat.pow_pos (n:=w) (show 0<2 by decide)
 unfold u2;omega
theorem u2_add(a b:Nat):u2 (a+b)=u2 a*u2 b:=by unfold u2;rw[Nat.pow_add];exact Int.natCast_mul _ _
theorem u2_mono{a b:Nat}(h:a≤b):u2 a≤u2 b:=Int.ofNat_le.2 (Nat.pow_le_pow_right xw h)
theorem u2_le_iff{a b:Nat}(h:u2 a≤u2 b):a≤b:=(Nat.pow_le_pow_iff_right xw).1 (Int.ofNat_le.1 h)
theorem lin8:∀w:Nat,16≤w→8*(128*(w:Int)+800)≤u2 w:=by
 intro w hw;obtain⟨k,rfl⟩:∃k,w=16+k:=⟨w-16,by omega⟩
 induction k with
 | zero=>decide +kernel
 | succ k ih=>
  have h1:=ih xq;have h2:u2 (16+(k+1))=u2 (16+k)*2:=u2_add (16+k) 1;rw[h2];omega
structure AtI(n w j:Nat)(pl ph sl sh:Int):Prop where
 p:Enc (u2 w) pl ph (atP n j)
 s:Enc (u2 w) sl sh (alt (atT n) (j+1))
 p0:0≤pl
 p1:1≤ph
 pw:ph-pl≤3
 sw:sh-sl≤3*((j:Int)+1)
 fall:ph*u2 j≤u2 w
def AtR(n w:Nat)(lo hi:Int):Prop:=(∃N:Nat,∀m,N≤m→Enc (u2 w) lo hi (alt (atT n) m))∧hi-lo≤5*(w:Int)+8
theorem AtI.start{n w:Nat}(hn:0<n):AtI n w 0 (u2 w/(n:Int)) (cdiv (u2 w) (n:Int)) (u2 w/(n:Int)) (cdiv (u2 w) (n:Int)):=by
 have hn':(0:Int)<(n:Int):=by omega
 have hU:=u2_pos w;have h1:Enc (u2 w) (u2 w/(n:Int)) (cdiv (u2 w) (n:Int)) (atP n 0):=Enc.one.over hn'
 have h2:alt (atT n) (0+1)=atP n 0:=by
  show 0+(1:Rat)*(atP n 0/(((2*0+1:Nat)):Rat))=_;have e:(((2*0+1:Nat)):Rat)=1:=rfl;rw[e];grind
 have h3:=w3 (a:=u2 w) (b:=u2 w) (d:=(n:Int)) xq hn';refine⟨h1,by rw[h2];exact h1,fl_nn xq hn',cd_ge (c:=0) hn' xq,h3,by omega,?_⟩;have:u2 0=1:=rfl;rw[this,Int.mul_one];exact cd_self xq hn'
section
variable {n w j:Nat} {pl ph sl sh:Int}
theorem AtI.jw(h:AtI n w j pl ph sl sh):j≤w:=by
 refine u2_le_iff (Int.le_trans ?_ h.fall);have:=Int.mul_le_mul_of_nonneg_right h.p1 (Int.le_of_lt (u2_pos j))
 omega
theorem AtI.power(h:AtI n w j pl ph sl sh)(hn:0<n):Enc (u2 w) (pl/((n*n:Nat):Int)) (cdiv ph ((n*n:Nat):Int)) (atP n (j+1)):=h.p.over (by have:=Nat.mul_pos hn hn;omega)
theorem AtI.term(h:AtI n w j pl ph sl sh)(hn:0<n):Enc (u2 w) (pl/((n*n:Nat):Int)/((2*j+3:Nat):Int)) (cdiv (cdiv ph ((n*n:Nat):Int)) ((2*j+3:Nat):Int)) (atT n (j+1)):=
 (h.power hn).over (d:=((2*j+3:Nat):Int)) xq
theorem AtI.pw'(h:AtI n w j pl ph sl sh)(hn:0<n):cdiv ph ((n*n:Nat):Int)-pl/((n*n:Nat):Int)≤3:=w3 h.pw (by have:=Nat.mul_pos hn hn;omega)
theorem AtI.tw(h:AtI n w j pl ph sl sh)(hn:0<n):cdiv (cdiv ph ((n*n:Nat):Int)) ((2*j+3:Nat):Int)-pl/((n*n:Nat):Int)/((2*j+3:Nat):Int)≤3:=w3 (h.pw' hn) xq
theorem AtI.sub(h:AtI n w j pl ph sl sh)(hn:0<n)(hj:j%2=0):Enc (u2 w) (sl-cdiv (cdiv ph ((n*n:Nat):Int)) ((2*j+3:Nat):Int)) (sh-pl/((n*n:Nat):Int)/((2*j+3:Nat):Int)) (alt (atT n) (j+1+1)):=by
 have h1:=h.s.sub (h.term hn)
 have e:alt (atT n) (j+1+1)=alt (atT n) (j+1)-atT n (j+1):=by
  rw[alt_s];unfold sgn;rw[if_neg xq];grind
 rw[e];exact h1
theorem AtI.add(h:AtI n w j pl ph sl sh)(hn:0<n)(hj:¬j%2=0):Enc (u2 w) (sl+pl/((n*n:Nat):Int)/((2*j+3:Nat):Int)) (sh+cdiv (cdiv ph ((n*n:Nat):Int)) ((2*j+3:Nat):Int)) (alt (atT n) (j+1+1)):=by
 have h1:=h.s.add (h.term hn)
 have e:alt (atT n) (j+1+1)=alt (atT n) (j+1)+atT n (j+1):=by
  rw[alt_s];unfold sgn;rw[if_pos xq];grind
 rw[e];exact h1
theorem AtI.go{sl' sh':Int}(h:AtI n w j pl ph sl sh)(hn:2≤n)(ht:2≤cdiv (cdiv ph ((n*n:Nat):Int)) ((2*j+3:Nat):Int))(hs:Enc (u2 w) sl' sh' (alt (atT n) (j+1+1)))(hw:sh'-sl'≤sh-sl+3):
  AtI n w (j+1) (pl/((n*n:Nat):Int)) (cdiv ph ((n*n:Nat):Int)) sl' sh'∧cdiv ph ((n*n:Nat):Int)<ph:=by
 have hnn:4≤n*n:=Nat.mul_le_mul hn hn;have h0:=h.p1;have h1:1≤cdiv ph ((n*n:Nat):Int):=cd_ge (c:=0) xq xq;have h2:=cd_self (b:=cdiv ph ((n*n:Nat):Int)) (d:=((2*j+3:Nat):Int)) xq xq;have h3:=cd_self (b:=ph) (d:=((n*n:Nat):Int)) xq xq;have h4:=cd_half (b:=ph) (d:=((n*n:Nat):Int)) xq xq;refine⟨⟨h.power xq,hs,fl_nn h.p0 xq,h1,h.pw' xq,by have:=h.sw;omega,?_⟩,by omega⟩;have h5:u2 (j+1)=u2 j*2:=u2_add j 1;have h6:=Int.mul_le_mul_of_nonneg_right h4 (Int.le_of_lt (u2_pos j));have h7:=h.fall;rw[h5];have e:cdiv ph ((n*n:Nat):Int)*(u2 j*2)=2*cdiv ph ((n*n:Nat):Int)*u2 j:=by grind
 rw[e];omega
theorem AtI.out{sl' sh':Int}(h:AtI n w j pl ph sl sh)(hn:0<n)(ht:cdiv (cdiv ph ((n*n:Nat):Int)) ((2*j+3:Nat):Int)≤1)(hs:Enc (u2 w) sl' sh' (alt (atT n) (j+1+1)))(hw:sh'-sl'≤sh-sl+3):AtR n w (sl'-1) (sh'+1):=by
 refine⟨⟨j+1+1,fun m hm=>?_⟩,by have:=h.jw;have:=h.sw;omega⟩;have h1:=alt_near (j0:=0) (atT_nn hn) (fun j _=>atT_le hn j) (Nat.zero_le _) hm;refine hs.near h1.1 h1.2 ?_ (u2_pos w);have h2:=(h.term hn).2;have h3:=Rat.mul_le_mul_of_nonneg_right (atT_le hn (j+1)) (Rat.le_of_lt (castI_pos (u2_pos w)));have h4:((cdiv (cdiv ph ((n*n:Nat):Int)) ((2*j+3:Nat):Int):Int):Rat)≤((1:Int):Rat):=Rat.intCast_le_intCast.2 ht;have e:((1:Int):Rat)=1:=rfl;rw[e] at h4;exact Rat.le_trans h3 (Rat.le_trans h2 h4)
theorem AtI.bd(h:AtI n w j pl ph sl sh)(hn:0<n):ph≤u2 w∧-(3*((w:Int)+1))≤sl∧sl≤u2 w∧0≤sh∧sh≤u2 w+3*((w:Int)+1):=by
 have h1:=atT_b (n:=n) hn (m:=j+1) xq;have h2:=atT_le hn 0;have hU:=castI_pos (u2_pos w)
 have h3:alt (atT n) (j+1)≤1:=by
  refine Rat.le_trans h1.2 ?_;have e:atT n 0=atP n 0/((2*0+1:Nat):Rat):=rfl;rw[e];refine Rat.le_trans (div_le_self (atP_nn hn 0) (cast_one xq)) ?_;show 1/(n:Rat)≤1;exact div_le_self xw (cast_one hn)
 have h4:alt (atT n) (j+1)*(u2 w:Rat)≤(u2 w:Rat):=by
  have:=Rat.mul_le_mul_of_nonneg_right h3 (Rat.le_of_lt hU)
  rwa [Rat.one_mul] at this
 have h5:=h.s.lo_le h4;have h6:=h.s.nonneg (by grind) (u2_pos w);have h7:=h.sw;have h8:=h.jw;have h9:=h.fall;have h10:=Int.mul_le_mul_of_nonneg_left (show 1≤u2 j by have:=u2_pos j;omega) (show 0≤ph by have:=h.p1;omega);refine⟨by omega,by omega,h5,h6,by omega⟩
end
def PiR(w:Nat)(lo hi:Int):Prop:=(∃N:Nat,∀m,N≤m→Enc (u2 w) lo hi (piN m))∧hi-lo≤128*(w:Int)+400
theorem PiR.of{w:Nat}{a b c d:Int}(h:AtR 5 w a b)(k:AtR 239 w c d):PiR w (a*16-d*4) (b*16-c*4):=by
 obtain⟨⟨N,h1⟩,h2⟩:=h;obtain⟨⟨M,k1⟩,k2⟩:=k;refine⟨⟨max N M,fun m hm=>?_⟩,by omega⟩;have e:=((h1 m xq).times (n:=16)).sub ((k1 m xq).times (n:=4))
 have e2:piN m=alt (atT 5) m*((16:Nat):Rat)-alt (atT 239) m*((4:Nat):Rat):=by
  unfold piN
  rw[Rat.mul_comm,Rat.mul_comm 4];rfl
 rw[e2];exact e
theorem PiR.bd{w:Nat}{a b:Int}(h:PiR w a b)(hw:16≤w):0≤a∧b≤4*u2 w∧a≤b∧1≤b:=by
 obtain⟨⟨N,h1⟩,h2⟩:=h;have h3:=h1 (N+1) xq;have h4:=piN_b (m:=N+1) xq;have hU:=castI_pos (u2_pos w);have l8:=lin8 w hw
 have h5:3*u2 w≤b:=h3.le_hi (by
  rw[Rat.intCast_mul];refine Rat.mul_le_mul_of_nonneg_right (Rat.le_trans ?_ h4.1) (Rat.le_of_lt hU)
  decide +kernel)
 have h6:5*a≤16*u2 w:=by
  have h7:=Rat.mul_le_mul_of_nonneg_right h4.2 (Rat.le_of_lt hU);have h8:=h3.1;refine Rat.intCast_le_intCast.1 ?_;rw[Rat.intCast_mul,Rat.intCast_mul];have e5:((5:Int):Rat)=5:=rfl;have e16:((16:Int):Rat)=16:=rfl;rw[e5,e16]
  grind
 have:=h3.le;have:=u2_pos w
 omega
end Nt
namespace Nt
theorem cdw{a b d W:Int}(hd:0<d)(h:b-a≤W*d):cdiv b d-a/d≤W+1:=by
 have h1:=cd_width (a:=a) (b:=b) hd
 rcases Int.lt_or_le (W+1) (cdiv b d-a/d) with h2|h2
 ·have h3:=Int.mul_le_mul_of_nonneg_right (show W+2≤cdiv b d-a/d by omega) (show 0≤d by omega);rw[Int.add_mul] at h3
  omega
 exact h2
theorem prod_width{U a b c d W V A C:Int}(hU:0<U)(ha:0≤a)(hc:0≤c)(h1:b-a≤W)(h2:d-c≤V)(h3:a≤A*U)(h4:d≤C*U)(hA:0≤A)(hC:0≤C)(hW:0≤W)(hV:0≤V)(hab:a≤b)(hcd:c≤d):cdiv (b*d) U-a*c/U≤W*C+V*A+1:=by
 refine cdw hU ?_;have e:b*d-a*c=(b-a)*d+(d-c)*a:=by grind
 have k1:(b-a)*d≤W*(C*U):=Int.le_trans (Int.mul_le_mul_of_nonneg_right h1 xq) (Int.mul_le_mul_of_nonneg_left h4 hW);have k2:(d-c)*a≤V*(A*U):=Int.le_trans (Int.mul_le_mul_of_nonneg_right h2 ha) (Int.mul_le_mul_of_nonneg_left h3 hV);have e2:(W*C+V*A)*U=W*(C*U)+V*(A*U):=by grind
 rw[e,e2];omega
def CsY(p q w:Nat)(lo hi:Int):Prop:=(∃N:Nat,∀m,N≤m→Enc (u2 w) lo hi (csY p q m))∧hi-lo≤128*(w:Int)+402∧0≤lo∧hi≤2*u2 w∧lo≤hi∧1≤hi
theorem csY_b{p q m:Nat}(hq:0<q)(hp:2*p≤q)(hm:1≤m):0≤csY p q m∧csY p q m≤8/5:=by
 have h1:=piN_b hm;have hq':=cast_pos hq;have hp0:(0:Rat)≤(p:Rat):=Rat.natCast_le_natCast.2 (Nat.zero_le p);have hpi0:0≤piN m:=Rat.le_trans (by decide +kernel) h1.1
 unfold csY
 refine⟨div_nn (Rat.mul_nonneg hpi0 hp0) hq',dv_le hq' ?_⟩;have h2:((2*p:Nat):Rat)≤(q:Rat):=Rat.natCast_le_natCast.2 hp;rw[Rat.natCast_mul] at h2;have e2:((2:Nat):Rat)=2:=rfl;rw[e2] at h2;have h3:=Rat.mul_le_mul_of_nonneg_right h1.2 hp0;have h4:=Rat.mul_le_mul_of_nonneg_left (c:=(8/5:Rat)) h2 (by decide +kernel);have e3:(8/5:Rat)*(2*(p:Rat))=16/5*(p:Rat):=by grind
 rw[e3] at h4;exact Rat.le_trans h3 h4
theorem CsY.of{p q w:Nat}{a b:Int}(h:PiR w a b)(hw:16≤w)(hq:0<q)(hp:2*p≤q)(hp1:1≤p):CsY p q w (a*(p:Int)/(q:Int)) (cdiv (b*(p:Int)) (q:Int)):=by
 obtain⟨h0,h4,hab,hb1⟩:=h.bd hw;obtain⟨⟨N,h1⟩,h2⟩:=h;have l8:=lin8 w hw;have hU:=u2_pos w;have E:∀m,N≤m→Enc (u2 w) (a*(p:Int)/(q:Int)) (cdiv (b*(p:Int)) (q:Int)) (csY p q m):=fun m hm=>((h1 m hm).times (n:=p)).over (d:=(q:Int)) xq
 have hwd:cdiv (b*(p:Int)) (q:Int)-a*(p:Int)/(q:Int)≤128*(w:Int)+402:=by
  have:=cdw (a:=a*(p:Int)) (b:=b*(p:Int)) (d:=(q:Int)) (W:=128*(w:Int)+400) xq (by
   rw[←Int.sub_mul];exact Int.le_trans (Int.mul_le_mul_of_nonneg_right h2 xq) (Int.mul_le_mul_of_nonneg_left (show(p:Int)≤(q:Int) by omega) xq))
  omega
 have hlo:0≤a*(p:Int)/(q:Int):=fl_nn (Int.mul_nonneg h0 xq) xq;have e1:=E (N+1) xq
 have h5:5*(a*(p:Int)/(q:Int))≤8*u2 w:=by
  have h6:=csY_b (m:=N+1) hq hp xq;have h7:=Rat.mul_le_mul_of_nonneg_right h6.2 (Rat.le_of_lt (castI_pos hU));have h8:=e1.1;refine Rat.intCast_le_intCast.1 ?_;rw[Rat.intCast_mul,Rat.intCast_mul];have e5:((5:Int):Rat)=5:=rfl;have e16:((8:Int):Rat)=8:=rfl;rw[e5,e16]
  grind
 have hbp:1≤b*(p:Int):=by
  have:=Int.mul_le_mul hb1 (show(1:Int)≤(p:Int) by omega) xw xq
  omega
 exact⟨⟨N,E⟩,hwd,hlo,by omega,e1.le,cd_ge (c:=0) xq xq⟩
def CsQ(p q w:Nat)(lo hi:Int):Prop:=(∃N:Nat,∀m,N≤m→Enc (u2 w) lo hi (csY p q m*csY p q m))∧hi-lo≤512*(w:Int)+1609∧0≤lo∧hi≤4*u2 w∧lo≤hi∧1≤hi
theorem CsQ.of{p q w:Nat}{a b:Int}(h:CsY p q w a b):CsQ p q w (a*a/u2 w) (cdiv (b*b) (u2 w)):=by
 obtain⟨⟨N,h1⟩,h2,h3,h4,h5,h51⟩:=h;have hU:=u2_pos w;have E:∀m,N≤m→Enc (u2 w) (a*a/u2 w) (cdiv (b*b) (u2 w)) (csY p q m*csY p q m):=fun m hm=>(h1 m hm).prod (h1 m hm) h3 h3 hU;refine⟨⟨N,E⟩,?_,fl_nn (Int.mul_nonneg h3 h3) hU,cd_le hU ?_,(E N qyl).le,cd_ge (c:=0) hU (by have:=Int.mul_le_mul h51 h51 xw xq;omega)⟩
 ·have:=prod_width (A:=2) (C:=2) hU h3 h3 h2 h2 xq h4 xq xq xq xq h5 h5
  omega
 have h6:=Int.mul_le_mul h4 h4 xq xq;have e:2*u2 w*(2*u2 w)=4*u2 w*u2 w:=by grind
 rw[e] at h6;exact h6
def csW(w:Nat):Int:=512*(w:Int)+1611
structure CsT(p q w j:Nat)(tl th:Int):Prop where
 e:∃N:Nat,∀m,N≤m→Enc (u2 w) tl th (csT (csY p q m) j)
 t0:0≤tl
 t1:1≤th
 tt:tl≤th
 t2:th≤2*u2 w
 tw:th-tl≤csW w
 t00:j=0→tl=th∧th=u2 w
 fall:th*u2 j≤4*u2 w
theorem CsT.start{p q w:Nat}:CsT p q w 0 (u2 w) (u2 w):=by
 have hU:=u2_pos w;refine⟨⟨0,fun m _=>Enc.one⟩,by omega,by omega,by omega,by omega,?_,fun _=>⟨rfl,rfl⟩,?_⟩
 ·unfold csW;omega
 show u2 w*1≤_;omega
def coD(j:Nat):Int:=(((2*j+2)*(2*j+1):Nat):Int)
theorem coD_pos(j:Nat):2≤coD j:=by
 have:=Nat.mul_le_mul (show 2≤2*j+2 by omega) (show 1≤2*j+1 by omega)
 unfold coD;omega
theorem coD_12{j:Nat}(hj:1≤j):12≤coD j:=by
 have:=Nat.mul_le_mul (show 4≤2*j+2 by omega) (show 3≤2*j+1 by omega)
 unfold coD;omega
def csL(w j:Nat)(tl ql:Int):Int:=tl*ql/u2 w/coD j
def csH(w j:Nat)(th qh:Int):Int:=cdiv (cdiv (th*qh) (u2 w)) (coD j)
section
variable {p q w j:Nat} {tl th ql qh:Int}
theorem CsT.jw(h:CsT p q w j tl th):j≤w+2:=by
 refine u2_le_iff (Int.le_trans ?_ (Int.le_trans h.fall (by rw[u2_add w 2];show 4*u2 w≤u2 w*4;omega)));have:=Int.mul_le_mul_of_nonneg_right h.t1 (Int.le_of_lt (u2_pos j))
 omega
theorem CsT.term(h:CsT p q w j tl th)(hq:CsQ p q w ql qh):∃N:Nat,∀m,N≤m→Enc (u2 w) (csL w j tl ql) (csH w j th qh) (csT (csY p q m) (j+1)):=by
 obtain⟨N,h1⟩:=h.e;obtain⟨⟨M,k1⟩,k2,k3,k4,k5,k6⟩:=hq;exact⟨max N M,fun m hm=>(((h1 m xq).prod (k1 m xq) h.t0 k3 (u2_pos w)).over (by have:=coD_pos j;omega))⟩
theorem CsT.next(h:CsT p q w j tl th)(hq:CsQ p q w ql qh)(ht:j≤1∨2≤th):CsT p q w (j+1) (csL w j tl ql) (csH w j th qh)∧(1≤j→csH w j th qh≤th)∧(1≤j→2≤th→2*csH w j th qh≤th):=by
 have hE:=h.term hq;have hU:=u2_pos w;have hd:=coD_pos j;obtain⟨N,h1⟩:=id hE;have hle:=(h1 N qyl).le;obtain⟨_,k2,k3,k4,k5,k6⟩:=hq;have t0:=h.t0;have t1:=h.t1;have t2:=h.t2;have tt:=h.tt;have tw:=h.tw;have hfl:=h.fall;have g0:0≤csL w j tl ql:=fl_nn (fl_nn (Int.mul_nonneg t0 k3) hU) xq
 have g1:cdiv (th*qh) (u2 w)≤4*th:=cd_le hU (by
  have:=Int.mul_le_mul_of_nonneg_left k4 (show 0≤th by omega);have e:th*(4*u2 w)=4*th*u2 w:=by grind
  rw[e] at this;exact this)
 have g2:csH w j th qh≤2*th:=cd_le xq (by
  have:=Int.mul_le_mul_of_nonneg_left hd (show 0≤2*th by omega);omega)
 have g3:1≤j→csH w j th qh≤cdiv th 3:=fun hj=>cd_le xq (by
  have h5:=(cd_mul (b:=th) (d:=3) xw).1;have h6:=Int.mul_le_mul_of_nonneg_left (coD_12 hj) (show 0≤cdiv th 3 by omega)
  omega)
 have g4:cdiv th 3≤th:=cd_self xq xw
 have g5:1≤th*qh:=by
  have:=Int.mul_le_mul t1 k6 xw xq
  omega
 have g6:1≤cdiv (th*qh) (u2 w):=cd_ge (c:=0) hU xq;have g7:1≤csH w j th qh:=cd_ge (c:=0) xq xq
 have g8:1≤j→2≤th→2*csH w j th qh≤th:=fun hj h2=>by
  have h3:=g3 hj;have h4:=cd_half (b:=th) (d:=3) h2 xw
  omega
 have g9:1≤j→csH w j th qh≤th:=fun hj=>Int.le_trans (g3 hj) g4
 have aa:csH w j th qh≤2*u2 w:=by
  by_cases hj:j=0
  ·rw[(h.t00 hj).2] at g2 ⊢;exact g2
  have:=g9 xq;omega
 refine⟨⟨hE,g0,g7,hle,aa,?_,by omega,?_⟩,g9,g8⟩
 ·by_cases hj:j=0
  ·obtain⟨e1,e2⟩:=h.t00 hj;have:=prod_width (A:=1) (C:=4) (W:=0) (V:=512*(w:Int)+1609) hU t0 k3 xq k2 xq k4 xq xq xq xq tt k5
   have h9:=cdw (a:=tl*ql/u2 w) (b:=cdiv (th*qh) (u2 w)) (d:=coD j) (W:=512*(w:Int)+1610) xq (by
    have:=Int.mul_le_mul_of_nonneg_left (show 1≤coD j by omega) (show 0≤512*(w:Int)+1610 by omega)
    omega)
   unfold csW csL csH;omega
  have ab:1≤j:=by omega
  have hd12:=coD_12 ab;have:=prod_width (A:=2) (C:=4) (W:=csW w) (V:=512*(w:Int)+1609) hU t0 k3 tw k2 xq k4 xq xq (by unfold csW;omega) xq tt k5
  have h9:=cdw (a:=tl*ql/u2 w) (b:=cdiv (th*qh) (u2 w)) (d:=coD j) (W:=512*(w:Int)+1610) xq (by
   have:=Int.mul_le_mul_of_nonneg_left hd12 (show 0≤512*(w:Int)+1610 by omega)
   unfold csW at *
   omega)
  unfold csW csL csH;omega
 have e2:u2 (j+1)=u2 j*2:=u2_add j 1;rw[e2];have e:csH w j th qh*(u2 j*2)=2*csH w j th qh*u2 j:=by grind
 rw[e]
 by_cases hj:j=0
 ·subst hj;show 2*csH w 0 th qh*1≤_
  omega
 by_cases h2:2≤th
 ·have h4:=g8 xq h2;exact Int.le_trans (Int.mul_le_mul_of_nonneg_right h4 (Int.le_of_lt (u2_pos j))) hfl
 have h4:=g9 xq;obtain rfl:j=1:=by omega
 show 2*csH w 1 th qh*2≤_
 omega
end
structure CsI(p q w j:Nat)(tl th sl sh:Int):Prop where
 c:CsT p q w j tl th
 s:∃N:Nat,∀m,N≤m→Enc (u2 w) sl sh (alt (csT (csY p q m)) (j+1))
 sw:sh-sl≤csW w*(j:Int)
def CsR(p q w:Nat)(lo hi:Int):Prop:=(∃N:Nat,∀m,N≤m→Enc (u2 w) lo hi (coN p q m))∧hi-lo≤csW w*((w:Int)+4)+2
theorem CsI.start{p q w:Nat}:CsI p q w 0 (u2 w) (u2 w) (u2 w) (u2 w):=by
 refine⟨CsT.start,⟨0,fun m _=>?_⟩,by omega⟩;have:alt (csT (csY p q m)) (0+1)=1:=by show 0+(1:Rat)*1=1;decide +kernel
 rw[this];exact Enc.one
def csM(w j:Nat)(th:Int):Nat:=if j=0 then(4*u2 w).toNat else th.toNat
def CsS(w j:Nat)(tl th ql qh sl sh sl' sh':Int):Prop:=j%2=0∧sl'=sl-csH w j th qh∧sh'=sh-csL w j tl ql∨¬j%2=0∧sl'=sl+csL w j tl ql∧sh'=sh+csH w j th qh
section
variable {p q w j:Nat} {tl th sl sh ql qh sl' sh':Int}
theorem CsI.sum(h:CsI p q w j tl th sl sh)(hq:CsQ p q w ql qh)(hs:CsS w j tl th ql qh sl sh sl' sh'):(∃N:Nat,∀m,N≤m→Enc (u2 w) sl' sh' (alt (csT (csY p q m)) (j+1+1)))∧sh'-sl'=sh-sl+(csH w j th qh-csL w j tl ql):=by
 obtain⟨N,h1⟩:=h.c.term hq;obtain⟨M,h2⟩:=h.s
 rcases hs with ⟨e,rfl,rfl⟩|⟨e,rfl,rfl⟩
 ·refine⟨⟨max N M,fun m hm=>?_⟩,by omega⟩
  have e2:alt (csT (csY p q m)) (j+1+1)=alt (csT (csY p q m)) (j+1)-csT (csY p q m) (j+1):=by
   rw[alt_s];unfold sgn;rw[if_neg xq];grind
  rw[e2];exact(h2 m xq).sub (h1 m xq)
 refine⟨⟨max N M,fun m hm=>?_⟩,by omega⟩
 have e2:alt (csT (csY p q m)) (j+1+1)=alt (csT (csY p q m)) (j+1)+csT (csY p q m) (j+1):=by
  rw[alt_s];unfold sgn;rw[if_pos xq];grind
 rw[e2];exact(h2 m xq).add (h1 m xq)
theorem CsI.go(h:CsI p q w j tl th sl sh)(hq:CsQ p q w ql qh)(ht:j=0∨2≤csH w j th qh)(hs:CsS w j tl th ql qh sl sh sl' sh'):
  CsI p q w (j+1) (csL w j tl ql) (csH w j th qh) sl' sh'∧csM w (j+1) (csH w j th qh)<csM w j th:=by
 have hT:1≤j→csH w j th qh≤th:=fun hj=>(h.c.next hq (by
  rcases Int.lt_or_le th 2 with h2|h2
  ·exact .inl (by
    have hd:=coD_12 hj;have hU:=u2_pos w;have t1:=h.c.t1;have k4:=hq.2.2.2.1
    have k1:csH w j th qh≤1:=cd_le xq (by
     have:cdiv (th*qh) (u2 w)≤4:=cd_le hU (by
      have e:th=1:=by omega
      rw[e,Int.one_mul];exact k4)
     omega)
    omega)
  exact .inr h2)).2.1 hj
 have hN:=h.c.next hq (by
  by_cases hj:j=0
  ·exact .inl xq
  have:=hT xq;exact .inr xq)
 obtain⟨S1,S2⟩:=h.sum hq hs;have hsw:=h.sw;have hU:=u2_pos w;have htw:=hN.1.tw;have e:csW w*(((j+1:Nat)):Int)=csW w*(j:Int)+csW w:=by rw[Int.natCast_add,Int.mul_add];simp
 refine⟨⟨hN.1,S1,by rw[e];omega⟩,?_⟩;have ht2:=hN.1.t2
 unfold csM
 rw[if_neg xq]
 by_cases hj:j=0
 ·rw[if_pos hj];omega
 rw[if_neg hj];have h4:=hN.2.2 xq (by have:=hT xq;omega)
 omega
theorem cs_near{x:Nat→Rat}{m:Nat}{y:Rat}{j:Nat}(hy:0≤y∧y≤8/5)(hj:1≤j)(hm:j≤m):alt (csT y) j-csT y j≤alt (csT y) m∧alt (csT y) m≤alt (csT y) j+csT y j:=by
 have hyy:y*y≤12:=Rat.le_trans (mulm hy.2 hy.2 hy.1 hy.1) (by decide +kernel);exact alt_near (j0:=1) (csT_nn _) (csT_le hyy) hj hm
theorem CsI.out(h:CsI p q w j tl th sl sh)(hq:CsQ p q w ql qh)(h0:0<q)(hp:2*p≤q)(hj:1≤j)(ht:csH w j th qh≤1)(hs:CsS w j tl th ql qh sl sh sl' sh'):CsR p q w (sl'-1) (sh'+1):=by
 obtain⟨S1,S2⟩:=h.sum hq hs;obtain⟨M,h2⟩:=S1;obtain⟨N,h1⟩:=h.c.term hq;have hU:=u2_pos w;have hL:0≤csL w j tl ql:=fl_nn (fl_nn (Int.mul_nonneg h.c.t0 hq.2.2.1) hU) (by have:=coD_pos j;omega);refine⟨⟨max (max N M) (j+2),fun m hm=>?_⟩,?_⟩
 ·have hy:=csY_b (m:=m) h0 hp xq;have hyy:csY p q m*csY p q m≤12:=Rat.le_trans (mulm hy.2 hy.2 hy.1 hy.1) (by decide +kernel);have h3:=cs_near (x:=fun _=>0) (m:=m) (j:=j+1+1) hy xq xq;have h4:=csT_le hyy (j+1) xq;refine(h2 m xq).near h3.1 h3.2 ?_ hU;have h5:=Rat.mul_le_mul_of_nonneg_right h4 (Rat.le_of_lt (castI_pos hU));have h6:((csH w j th qh:Int):Rat)≤((1:Int):Rat):=Rat.intCast_le_intCast.2 ht;have e:((1:Int):Rat)=1:=rfl;rw[e] at h6;exact Rat.le_trans h5 (Rat.le_trans (h1 m xq).2 h6)
 have h6:=h.sw;have h7:=h.c.jw;have h8:=Int.mul_le_mul_of_nonneg_left (show(j:Int)+1≤(w:Int)+4 by omega) (show 0≤csW w by unfold csW;omega);rw[Int.mul_add] at h8;have:1≤csW w:=by unfold csW;omega
 omega
theorem cs_bd{N:Nat}{m:Nat}(h0:0<q)(hp:2*p≤q)(hm:1≤m)(hj:1≤j)(h2:Enc (u2 w) sl sh (alt (csT (csY p q m)) j)):sl≤3*u2 w∧-(3*u2 w)≤sh:=by
 have hy:=csY_b (m:=m) h0 hp hm;have h3:=cs_near (x:=fun _=>0) (j:=1) (m:=j) hy xq xq;have hyy:=mulm hy.2 hy.2 hy.1 hy.1;have e1:alt (csT (csY p q m)) 1=1:=by show 0+(1:Rat)*1=1;decide +kernel
 have h4:csT (csY p q m) 1≤2:=by
  show 1*(csY p q m*csY p q m)/(((2*0+2)*(2*0+1):Nat):Rat)≤2;refine dv_le (cast_pos xw) ?_;rw[Rat.one_mul];exact Rat.le_trans hyy (by decide +kernel)
 rw[e1] at h3;have hU:=castI_pos (u2_pos w)
 have h5:alt (csT (csY p q m)) j*(u2 w:Rat)≤((3*u2 w:Int):Rat):=by
  rw[Rat.intCast_mul];refine Rat.mul_le_mul_of_nonneg_right ?_ (Rat.le_of_lt hU);have e:((3:Int):Rat)=3:=rfl;rw[e];grind
 have h6:((-(3*u2 w):Int):Rat)≤alt (csT (csY p q m)) j*(u2 w:Rat):=by
  have e:-(3*u2 w)=(-3)*u2 w:=by omega
  rw[e,Rat.intCast_mul];refine Rat.mul_le_mul_of_nonneg_right ?_ (Rat.le_of_lt hU);have e:((-3:Int):Rat)=-3:=rfl;rw[e];grind
 exact⟨h2.lo_le h5,h2.le_hi h6⟩
theorem CsI.bd(h:CsI p q w j tl th sl sh)(h0:0<q)(hp:2*p≤q):-(csW w*((w:Int)+2))-3*u2 w≤sl∧sl≤3*u2 w∧-(3*u2 w)≤sh∧sh≤3*u2 w+csW w*((w:Int)+2):=by
 obtain⟨N,h1⟩:=h.s;have h2:=cs_bd (N:=N) (m:=N+1) h0 hp xq xq (h1 (N+1) xq);have h9:=h.sw;have h10:=h.c.jw;have h11:=Int.mul_le_mul_of_nonneg_left (show(j:Int)≤(w:Int)+2 by omega) (show 0≤csW w by unfold csW;omega)
 omega
end
def FlO(X:Nat→Rat)(b:Nat)(z:Int):Prop:=∃N:Nat,∀m,N≤m→(z:Rat)≤X m*(u2 b:Rat)∧X m*(u2 b:Rat)<((z+1:Int):Rat)
theorem FlO.uniq{X:Nat→Rat}{b:Nat}{y z:Int}(h:FlO X b y)(k:FlO X b z):y=z:=by
 obtain⟨N,h⟩:=h;obtain⟨M,k⟩:=k;have h1:=h (max N M) xq;have k1:=k (max N M) xq;have a:=Rat.intCast_lt_intCast.1 (Std.lt_of_le_of_lt h1.1 k1.2);have c:=Rat.intCast_lt_intCast.1 (Std.lt_of_le_of_lt k1.1 h1.2)
 omega
theorem FlO.of{X:Nat→Rat}{b w:Nat}{lo hi z:Int}(h:∃N:Nat,∀m,N≤m→Enc (u2 w) lo hi (X m))(hb:b≤w)(h1:lo/u2 (w-b)=z)(h2:hi/u2 (w-b)=z):FlO X b z:=by
 obtain⟨N,h⟩:=h;refine⟨N,fun m hm=>?_⟩;have h3:=h m hm;have hp:=u2_pos (w-b);have e:u2 w=u2 b*u2 (w-b):=by rw[←u2_add,show b+(w-b)=w by omega]
 have k1:=(fl_mul (a:=lo) hp).1;have k2:=Int.lt_ediv_add_one_mul_self hi hp;rw[h1] at k1;rw[h2] at k2;have r1:=Rat.intCast_le_intCast.2 k1;have r2:=Rat.intCast_lt_intCast.2 k2;rw[Rat.intCast_mul] at r1 r2;obtain⟨h4,h5⟩:=h3;rw[e,Rat.intCast_mul,←Rat.mul_assoc] at h4 h5;refine⟨Rat.le_of_mul_le_mul_right (Rat.le_trans r1 h4) (castI_pos hp),?_⟩
 by_cases h6:X m*(u2 b:Rat)<((z+1:Int):Rat)
 ·exact h6
 have h7:=Rat.mul_le_mul_of_nonneg_right (Rat.not_lt.1 h6) (Rat.le_of_lt (castI_pos hp));exact absurd (Std.lt_of_le_of_lt (Rat.le_trans h7 h5) r2) (by grind)
def Gap(X:Nat→Rat)(b g:Nat):Prop:=b≤g∧∃(z:Int) (N:Nat),∀m,N≤m→((z*u2 (g-b)+1:Int):Rat)≤X m*(u2 g:Rat)∧X m*(u2 g:Rat)≤((z*u2 (g-b)+u2 (g-b)-1:Int):Rat)
theorem Gap.decides{X:Nat→Rat}{b g w:Nat}{lo hi:Int}(h0:Gap X b g)(h:∃N:Nat,∀m,N≤m→Enc (u2 w) lo hi (X m))(hb:g≤w)(hw:hi-lo<u2 (w-g)):lo/u2 (w-b)=hi/u2 (w-b):=by
 obtain⟨hbg,z,N,g0⟩:=h0;obtain⟨M,h⟩:=h;have g1:=g0 (max N M) xq;have h1:=h (max N M) xq;have e:u2 w=u2 g*u2 (w-g):=by rw[←u2_add,show g+(w-g)=w by omega]
 have e2:u2 (w-b)=u2 (g-b)*u2 (w-g):=by rw[←u2_add,show g-b+(w-g)=w-b by omega]
 have hs:=u2_pos (w-g);have hB:=u2_pos (g-b);generalize u2 (w-g)=s at *;generalize u2 (g-b)=B at *;obtain⟨h4,h5⟩:=h1;rw[e,Rat.intCast_mul,←Rat.mul_assoc] at h4 h5;have r1:=Rat.mul_le_mul_of_nonneg_right g1.1 (Rat.le_of_lt (castI_pos hs));have r2:=Rat.mul_le_mul_of_nonneg_right g1.2 (Rat.le_of_lt (castI_pos hs));rw[←Rat.intCast_mul] at r1 r2;have k1:=Rat.intCast_le_intCast.1 (Rat.le_trans r1 h5);have k2:=Rat.intCast_le_intCast.1 (Rat.le_trans h4 r2);have hS:0<B*s:=Int.mul_pos hB hs;have e3:(z*B+1)*s=z*(B*s)+s:=by grind
 have e4:(z*B+B-1)*s=z*(B*s)+B*s-s:=by grind
 rw[e3] at k1;rw[e4] at k2
 have f:∀y:Int,z*(B*s)≤y→y<z*(B*s)+B*s→y/u2 (w-b)=z:=fun y h1 h2=>by
  rw[e2];have a1:=Int.le_ediv_of_mul_le hS h1;have a2:y/(B*s)<z+1:=Int.ediv_lt_of_lt_mul hS (by rw[Int.add_mul,Int.one_mul];exact h2)
  omega
 have hle:lo≤hi:=(h (max N M) xq).le;rw[f lo xq xq,f hi xq xq]
theorem Gap.of{X:Nat→Rat}{b g w:Nat}{lo hi:Int}(h:∃N:Nat,∀m,N≤m→Enc (u2 w) lo hi (X m))(z:Int)(hb:b≤g)(hg:g≤w)(h1:(z*u2 (g-b)+1)*u2 (w-g)≤lo)(h2:hi≤(z*u2 (g-b)+u2 (g-b)-1)*u2 (w-g)):Gap X b g:=by
 obtain⟨N,h⟩:=h;have e:u2 w=u2 g*u2 (w-g):=by rw[←u2_add,show g+(w-g)=w by omega]
 have hs:=castI_pos (u2_pos (w-g));refine⟨hb,z,N,fun m hm=>?_⟩;obtain⟨h4,h5⟩:=h m hm;rw[e,Rat.intCast_mul,←Rat.mul_assoc] at h4 h5;have k1:=Rat.le_trans (Rat.intCast_le_intCast.2 h1) h4;have k2:=Rat.le_trans h5 (Rat.intCast_le_intCast.2 h2);rw[Rat.intCast_mul] at k1 k2;exact⟨Rat.le_of_mul_le_mul_right k1 hs,Rat.le_of_mul_le_mul_right k2 hs⟩
end Nt
namespace Nt
theorem flr_div{z d:Int}(hd:0<d):flr ((z:Rat)/(d:Rat))=z/d:=by
 obtain⟨D,rfl⟩:∃D:Nat,d=(D:Int):=⟨d.toNat,by omega⟩
 rw[mk_div,flr_mk xq]
def flU(w:Nat)(x:Rat):Int:=flr (x*(u2 w:Rat))
def ceU(w:Nat)(x:Rat):Int:=-flr (-(x*(u2 w:Rat)))
theorem flU_eq{w:Nat}{x:Rat}{z d:Int}(hd:0<d)(h:x*(u2 w:Rat)=(z:Rat)/(d:Rat)):flU w x=z/d:=by unfold flU;rw[h,flr_div hd]
theorem ceU_eq{w:Nat}{x:Rat}{z d:Int}(hd:0<d)(h:x*(u2 w:Rat)=(z:Rat)/(d:Rat)):ceU w x=cdiv z d:=by
 unfold ceU cdiv
 have e:-((z:Rat)/(d:Rat))=((-z:Int):Rat)/(d:Rat):=by rw[Rat.intCast_neg,Rat.div_def,Rat.div_def,Rat.neg_mul]
 rw[h,e,flr_div hd]
theorem flr_b(q:Rat):((flr q:Int):Rat)≤q∧q<((flr q+1:Int):Rat):=by
 have hd:(0:Int)<(q.den:Int):=by have:=q.den_pos;omega
 have e:q=(q.num:Rat)/((q.den:Int):Rat):=by
  rw[mk_div];exact(Rat.mkRat_self q).symm
 have h1:=(fl_mul (a:=q.num) hd).1;have h2:=Int.lt_ediv_add_one_mul_self q.num hd;have hD:=castI_pos hd;have k1:=Rat.intCast_le_intCast.2 h1;have k2:=Rat.intCast_lt_intCast.2 h2;rw[Rat.intCast_mul] at k1 k2
 have e2:(q.num:Rat)=q*((q.den:Int):Rat):=by
  have:=div_mul_c (x:=(q.num:Rat)) hD;rw[←e] at this;exact this.symm
 rw[e2] at k1 k2;refine⟨Rat.le_of_mul_le_mul_right k1 hD,?_⟩
 by_cases h6:q<((flr q+1:Int):Rat)
 ·exact h6
 have h7:=Rat.mul_le_mul_of_nonneg_right (Rat.not_lt.1 h6) (Rat.le_of_lt hD);exact absurd k2 (Rat.not_lt.2 h7)
theorem flU_b(w:Nat)(x:Rat):((flU w x:Int):Rat)≤x*(u2 w:Rat)∧x*(u2 w:Rat)<((flU w x+1:Int):Rat):=flr_b _
theorem ceU_b(w:Nat)(x:Rat):x*(u2 w:Rat)≤((ceU w x:Int):Rat)∧((ceU w x-1:Int):Rat)<x*(u2 w:Rat):=by
 have h:=flr_b (-(x*(u2 w:Rat)))
 unfold ceU
 rw[Rat.intCast_add] at h;have e:-flr (-(x*(u2 w:Rat)))-1=-(flr (-(x*(u2 w:Rat)))+1):=by omega
 rw[e,Rat.intCast_neg,Rat.intCast_neg,Rat.intCast_add];have e1:((1:Int):Rat)=1:=rfl;rw[e1] at h ⊢
 constructor<;>grind
def gr(w:Nat)(a:Int):Rat:=(a:Rat)/(u2 w:Rat)
theorem gr_mul(w:Nat)(a:Int):gr w a*(u2 w:Rat)=(a:Rat):=div_mul_c (castI_pos (u2_pos w))
theorem gr_mono{w:Nat}{a b:Int}(h:a≤b):gr w a≤gr w b:=div_mono (castI_pos (u2_pos w)) (Rat.intCast_le_intCast.2 h)
theorem gr_nn{w:Nat}{a:Int}(h:0≤a):0≤gr w a:=div_nn (Rat.intCast_le_intCast.2 h) (castI_pos (u2_pos w))
theorem gr_le{w:Nat}{a b:Int}:gr w a≤gr w b↔a≤b:=by
 refine⟨fun h=>?_,gr_mono⟩;have:=Rat.mul_le_mul_of_nonneg_right h (Rat.le_of_lt (castI_pos (u2_pos w)));rw[gr_mul,gr_mul] at this;exact Rat.intCast_le_intCast.1 this
theorem gr_neg(w:Nat)(a:Int):-gr w a=gr w (-a):=by unfold gr;rw[Rat.intCast_neg,Rat.div_def,Rat.div_def,Rat.neg_mul]
theorem gr_add(w:Nat)(a b:Int):gr w a+gr w b=gr w (a+b):=by unfold gr;rw[Rat.intCast_add,Rat.div_def,Rat.div_def,Rat.div_def,Rat.add_mul]
theorem gr_sub(w:Nat)(a b:Int):gr w a-gr w b=gr w (a-b):=by rw[Rat.sub_eq_add_neg,gr_neg,gr_add];congr 1
theorem gr_int(w:Nat)(a c:Int):(c:Rat)*gr w a=gr w (c*a):=by unfold gr;rw[Rat.intCast_mul,Rat.div_def,Rat.div_def,Rat.mul_assoc]
theorem gr_zero(w:Nat):gr w 0=0:=by unfold gr;rw[Rat.div_def];exact Rat.zero_mul _
theorem gr_one(w:Nat):gr w (u2 w)=1:=Rat.mul_inv_cancel _ (by have:=castI_pos (u2_pos w);grind)
theorem lo4_pt{x y r:Rat}(h:x≤y)(hr:0≤r):lo4 (x*r) (x*r) (y*r) (y*r)=x*r∧hi4 (x*r) (x*r) (y*r) (y*r)=y*r:=by
 have h1:=Rat.mul_le_mul_of_nonneg_right h hr
 unfold lo4 hi4 lo hi
 generalize x*r=a at *;generalize y*r=b at *
 grind
theorem lo4_nn{x y z t:Rat}(h:x≤y)(k:z≤t)(hx:0≤x)(hz:0≤z):lo4 (x*z) (x*t) (y*z) (y*t)=x*z∧hi4 (x*z) (x*t) (y*z) (y*t)=y*t:=by
 have h1:=Rat.mul_le_mul_of_nonneg_right h hz;have h2:=Rat.mul_le_mul_of_nonneg_right h (Rat.le_trans hz k);have h3:=Rat.mul_le_mul_of_nonneg_left k hx;have h4:=Rat.mul_le_mul_of_nonneg_left k (Rat.le_trans hx h)
 unfold lo4 hi4 lo hi
 generalize x*z=a at *;generalize y*z=b at *;generalize x*t=c at *;generalize y*t=d at *
 grind
structure AtF(n w k:Nat)(a b c d:Int):Prop where
 p:Enc (u2 w) a b (atP n k)
 s:Enc (u2 w) c d (alt (atT n) k)
 p0:0≤a
 p1:1≤b
 ab:a≤b
 pw:b-a≤3
 sw:d-c≤3*(k:Int)
 cd:c≤d
 fall:b*u2 k≤u2 w
theorem AtF.start{n w:Nat}(hn:0<n):AtF n w 0 (u2 w/(n:Int)) (cdiv (u2 w) (n:Int)) 0 0:=by
 have h:=AtI.start (w:=w) hn;refine⟨h.p,?_,h.p0,h.p1,h.p.le,h.pw,by omega,by omega,h.fall⟩;show((0:Int):Rat)≤0*(u2 w:Rat)∧(0:Rat)*(u2 w:Rat)≤((0:Int):Rat);rw[Rat.zero_mul];exact⟨Rat.le_refl,Rat.le_refl⟩
section
variable {n w k:Nat} {a b c d:Int}
theorem AtF.kw(h:AtF n w k a b c d):k≤w:=by
 refine u2_le_iff (Int.le_trans ?_ h.fall);have:=Int.mul_le_mul_of_nonneg_right h.p1 (Int.le_of_lt (u2_pos k))
 omega
theorem AtF.term(h:AtF n w k a b c d):Enc (u2 w) (a/((2*k+1:Nat):Int)) (cdiv b ((2*k+1:Nat):Int)) (atT n k):=h.p.over (d:=((2*k+1:Nat):Int)) xq
theorem AtF.go{c' d':Int}(h:AtF n w k a b c d)(hn:2≤n)(hb:((2*k+1:Nat):Int)<b)
  (hs:k%2=0∧c'=c+a/((2*k+1:Nat):Int)∧d'=d+cdiv b ((2*k+1:Nat):Int)∨¬k%2=0∧c'=c-cdiv b ((2*k+1:Nat):Int)∧d'=d-a/((2*k+1:Nat):Int)) :
  AtF n w (k+1) (a/((n*n:Nat):Int)) (cdiv b ((n*n:Nat):Int)) c' d'∧cdiv b ((n*n:Nat):Int)<b:=by
 have hnn:4≤n*n:=Nat.mul_le_mul hn hn;have h0:=h.p1;have h1:1≤cdiv b ((n*n:Nat):Int):=cd_ge (c:=0) xq xq;have h3:=cd_self (b:=b) (d:=((n*n:Nat):Int)) xq xq;have h4:=cd_half (b:=b) (d:=((n*n:Nat):Int)) xq xq;have hp:Enc (u2 w) (a/((n*n:Nat):Int)) (cdiv b ((n*n:Nat):Int)) (atP n (k+1)):=h.p.over xq;have ht:=h.term;have htw:=w3 (a:=a) (b:=b) (d:=((2*k+1:Nat):Int)) h.pw xq;have hsw:=h.sw
 have hS:Enc (u2 w) c' d' (alt (atT n) (k+1)):=by
  rcases hs with ⟨e,rfl,rfl⟩|⟨e,rfl,rfl⟩
  ·have e2:alt (atT n) (k+1)=alt (atT n) k+atT n k:=by rw[alt_s];unfold sgn;rw[if_pos e];grind
   rw[e2];exact h.s.add ht
  have e2:alt (atT n) (k+1)=alt (atT n) k-atT n k:=by rw[alt_s];unfold sgn;rw[if_neg e];grind
  rw[e2];exact h.s.sub ht
 refine⟨⟨hp,hS,fl_nn h.p0 xq,h1,hp.le,w3 h.pw xq,by rcases hs with ⟨e,rfl,rfl⟩|⟨e,rfl,rfl⟩<;>omega,hS.le,?_⟩,by omega⟩;have h5:u2 (k+1)=u2 k*2:=u2_add k 1;have h6:=Int.mul_le_mul_of_nonneg_right h4 (Int.le_of_lt (u2_pos k));have h7:=h.fall;rw[h5];have e:cdiv b ((n*n:Nat):Int)*(u2 k*2)=2*cdiv b ((n*n:Nat):Int)*u2 k:=by grind
 rw[e];omega
theorem AtF.out(h:AtF n w k a b c d)(hn:0<n)(hb:b≤((2*k+1:Nat):Int)):AtR n w (c-cdiv b ((2*k+1:Nat):Int)) (d+cdiv b ((2*k+1:Nat):Int)):=by
 have ht1:cdiv b ((2*k+1:Nat):Int)≤1:=cd_le xq xq;have ht0:1≤cdiv b ((2*k+1:Nat):Int):=cd_ge (c:=0) xq (by have:=h.p1;omega);have e:cdiv b ((2*k+1:Nat):Int)=1:=by omega
 refine⟨⟨k,fun m hm=>?_⟩,by have:=h.kw;have:=h.sw;omega⟩;have h1:=alt_near (j0:=0) (atT_nn hn) (fun j _=>atT_le hn j) (Nat.zero_le _) hm;rw[e];refine h.s.near h1.1 h1.2 ?_ (u2_pos w);have h2:=h.term.2;rw[e] at h2;exact h2
theorem AtF.bd(h:AtF n w k a b c d)(hn:0<n):b≤u2 w∧-(3*(w:Int))≤c∧c≤u2 w∧0≤d∧d≤u2 w+3*(w:Int):=by
 have h3:0≤alt (atT n) k∧alt (atT n) k≤1:=by
  cases k with
  | zero=>exact⟨Rat.le_refl,by show(0:Rat)≤1;decide⟩
  | succ k=>
   have h1:=atT_b (n:=n) hn (m:=k+1) xq;have h2:=atT_le hn 0;refine⟨by grind,Rat.le_trans h1.2 ?_⟩;refine Rat.le_trans (div_le_self (atP_nn hn 0) (cast_one xq)) ?_;show 1/(n:Rat)≤1;exact div_le_self xw (cast_one hn)
 have hU:=castI_pos (u2_pos w)
 have h4:alt (atT n) k*(u2 w:Rat)≤(u2 w:Rat):=by
  have:=Rat.mul_le_mul_of_nonneg_right h3.2 (Rat.le_of_lt hU)
  rwa [Rat.one_mul] at this
 have h5:=h.s.lo_le h4;have h6:=h.s.nonneg h3.1 (u2_pos w);have h7:=h.sw;have h8:=h.kw;have h9:=h.fall;have h10:=Int.mul_le_mul_of_nonneg_left (show 1≤u2 k by have:=u2_pos k;omega) (show 0≤b by have:=h.p1;omega);refine⟨by omega,by omega,h5,h6,by omega⟩
end
theorem CsQ.ofR{p q w:Nat}{a b:Int}(h:PiR w a b)(hw:16≤w)(hq:0<q)(hp:2*p≤q)(hp1:1≤p):
  CsQ p q w (flU w (gr w a*((p:Rat)/(q:Rat))*(gr w a*((p:Rat)/(q:Rat))))) (ceU w (gr w b*((p:Rat)/(q:Rat))*(gr w b*((p:Rat)/(q:Rat)))))∧0≤gr w a*((p:Rat)/(q:Rat))∧gr w a*((p:Rat)/(q:Rat))≤gr w b*((p:Rat)/(q:Rat))∧0<gr w b*((p:Rat)/(q:Rat)):=by
 obtain⟨h0,h4,hab,hb1⟩:=h.bd hw;obtain⟨⟨N,h1⟩,h2⟩:=h;have l8:=lin8 w hw;have hU:=u2_pos w;have hUr:=castI_pos hU;have hq':=cast_pos hq;have hp':=cast_pos hp1
 have aa:(0:Rat)<(p:Rat)/(q:Rat):=by
  rw[Rat.div_def];exact Rat.mul_pos hp' (Rat.inv_pos.2 hq')
 have ac:(p:Rat)/(q:Rat)≤1/2:=by
  refine dv_le hq' ?_;have h2:((2*p:Nat):Rat)≤(q:Rat):=Rat.natCast_le_natCast.2 hp;rw[Rat.natCast_mul] at h2;have e2:((2:Nat):Rat)=2:=rfl;rw[e2] at h2
  grind
 have hya:∀m,N≤m→gr w a*((p:Rat)/(q:Rat))≤csY p q m∧csY p q m≤gr w b*((p:Rat)/(q:Rat)):=fun m hm=>by
  have h3:=h1 m hm;have e:csY p q m=piN m*((p:Rat)/(q:Rat)):=by unfold csY;rw[Rat.div_def,Rat.div_def,Rat.mul_assoc]
  have f1:gr w a≤piN m:=dv_le hUr h3.1;have f2:piN m≤gr w b:=le_dv hUr h3.2;rw[e];exact⟨Rat.mul_le_mul_of_nonneg_right f1 (Rat.le_of_lt aa),Rat.mul_le_mul_of_nonneg_right f2 (Rat.le_of_lt aa)⟩
 have hgb:gr w b≤4:=by
  refine dv_le hUr ?_;have:=Rat.intCast_le_intCast.2 h4;rw[Rat.intCast_mul] at this;exact this
 have hgw:(gr w b-gr w a)*(u2 w:Rat)≤((128*(w:Int)+400:Int):Rat):=by
  rw[gr_sub,gr_mul];exact Rat.intCast_le_intCast.2 h2
 have hga:=gr_nn (w:=w) h0;have hgab:=gr_mono (w:=w) hab
 have ab:0<gr w b:=by
  unfold gr;rw[Rat.div_def];exact Rat.mul_pos (castI_pos xq) (Rat.inv_pos.2 hUr)
 generalize (p:Rat)/(q:Rat)=r at *;have x0:0≤gr w a*r:=Rat.mul_nonneg hga (Rat.le_of_lt aa);have xy:gr w a*r≤gr w b*r:=Rat.mul_le_mul_of_nonneg_right hgab (Rat.le_of_lt aa)
 have y2:gr w b*r≤2:=by
  have:=mulm hgb ac (Rat.le_of_lt ab) (Rat.le_of_lt aa);refine Rat.le_trans this (by decide +kernel)
 have yp:0<gr w b*r:=Rat.mul_pos ab aa
 have hxw:(gr w b*r-gr w a*r)*(u2 w:Rat)≤((128*(w:Int)+400:Int):Rat):=by
  have e:(gr w b*r-gr w a*r)*(u2 w:Rat)=(gr w b-gr w a)*(u2 w:Rat)*r:=by grind
  rw[e];have hn:0≤(gr w b-gr w a)*(u2 w:Rat):=Rat.mul_nonneg (by grind) (Rat.le_of_lt hUr)
  have k1:=Rat.mul_le_mul_of_nonneg_left (c:=(gr w b-gr w a)*(u2 w:Rat)) (show r≤1 by
   refine Rat.le_trans ac (by decide +kernel)) hn
  rw[Rat.mul_one] at k1;exact Rat.le_trans k1 hgw
 refine⟨?_,x0,xy,yp⟩;generalize gr w a*r=x at *;generalize gr w b*r=y at *;have f1:=flU_b w (x*x);have f2:=ceU_b w (y*y);have ad:0≤x*x:=Rat.mul_nonneg x0 x0
 have E:∀m,N≤m→Enc (u2 w) (flU w (x*x)) (ceU w (y*y)) (csY p q m*csY p q m):=fun m hm=>by
  obtain⟨g1,g2⟩:=hya m hm;have k1:=mulm g1 g1 x0 x0;have k2:=mulm g2 g2 (Rat.le_trans x0 g1) (Rat.le_trans x0 g1);exact⟨Rat.le_trans f1.1 (Rat.mul_le_mul_of_nonneg_right k1 (Rat.le_of_lt hUr)),Rat.le_trans (Rat.mul_le_mul_of_nonneg_right k2 (Rat.le_of_lt hUr)) f2.1⟩
 have hyy:(y*y-x*x)*(u2 w:Rat)≤4*((128*(w:Int)+400:Int):Rat):=by
  have e:(y*y-x*x)*(u2 w:Rat)=(y-x)*(u2 w:Rat)*(y+x):=by grind
  rw[e];have hn:0≤(y-x)*(u2 w:Rat):=Rat.mul_nonneg (by grind) (Rat.le_of_lt hUr);have k1:=Rat.mul_le_mul_of_nonneg_left (c:=(y-x)*(u2 w:Rat)) (show y+x≤4 by grind) hn
  grind
 refine⟨⟨N,E⟩,?_,?_,?_,(E N qyl).le,?_⟩
 ·have g:((ceU w (y*y)-1-(flU w (x*x)+1):Int):Rat)<((4*(128*(w:Int)+400):Int):Rat):=by
   rw[Rat.intCast_sub,Rat.intCast_mul];have e4:((4:Int):Rat)=4:=rfl;rw[e4];have:=f1.2;have:=f2.2
   grind
  have:=Rat.intCast_lt_intCast.1 g
  omega
 ·have g:((0:Int):Rat)<((flU w (x*x)+1:Int):Rat):=Std.lt_of_le_of_lt (Rat.mul_nonneg ad (Rat.le_of_lt hUr)) f1.2;have:=Rat.intCast_lt_intCast.1 g
  omega
 ·have k1:y*y≤4:=by
   have:=mulm y2 y2 (Rat.le_of_lt yp) (Rat.le_of_lt yp);refine Rat.le_trans this (by decide +kernel)
  have k2:=Rat.mul_le_mul_of_nonneg_right k1 (Rat.le_of_lt hUr)
  have g:((ceU w (y*y)-1:Int):Rat)<((4*u2 w:Int):Rat):=by
   rw[Rat.intCast_mul];exact Std.lt_of_lt_of_le f2.2 k2
  have:=Rat.intCast_lt_intCast.1 g
  omega
 have g:((0:Int):Rat)<((ceU w (y*y):Int):Rat):=Std.lt_of_lt_of_le (Rat.mul_pos (Rat.mul_pos yp yp) hUr) f2.1;have:=Rat.intCast_lt_intCast.1 g
 omega
theorem cdiv_cdiv{a b d:Int}(hb:0<b)(hd:0<d):cdiv (cdiv a b) d=cdiv a (b*d):=by
 unfold cdiv
 rw[Int.neg_neg,Int.ediv_ediv_of_nonneg xq]
structure CsF(p q w k:Nat)(tl th c d:Int):Prop where
 t:CsT p q w k tl th
 s:∃N:Nat,∀m,N≤m→Enc (u2 w) c d (alt (csT (csY p q m)) k)
 sw:d-c≤csW w*(k:Int)
 cd:c≤d
theorem CsF.start{p q w:Nat}:CsF p q w 0 (u2 w) (u2 w) 0 0:=by
 refine⟨CsT.start,⟨0,fun m _=>?_⟩,by omega,by omega⟩;show((0:Int):Rat)≤0*(u2 w:Rat)∧(0:Rat)*(u2 w:Rat)≤((0:Int):Rat);rw[Rat.zero_mul];exact⟨Rat.le_refl,Rat.le_refl⟩
def csMF(w k:Nat)(th:Int):Nat:=if k=0 then(2*u2 w).toNat+2 else if k=1 then(2*u2 w).toNat+1 else th.toNat
section
variable {p q w k:Nat} {tl th c d ql qh c' d':Int}
theorem CsF.go(h:CsF p q w k tl th c d)(hq:CsQ p q w ql qh)(ht:k≤1∨2≤th)
  (hs:k%2=0∧c'=c+tl∧d'=d+th∨¬k%2=0∧c'=c-th∧d'=d-tl) :
  CsF p q w (k+1) (csL w k tl ql) (csH w k th qh) c' d'∧csMF w (k+1) (csH w k th qh)<csMF w k th:=by
 have htw:=h.t.tw;have hsw:=h.sw;have htt:=h.t.tt;have ht2:=h.t.t2;have hU:=u2_pos w;obtain⟨N,h1⟩:=h.t.e;obtain⟨M,h2⟩:=h.s
 have hS:∀m,max N M≤m→Enc (u2 w) c' d' (alt (csT (csY p q m)) (k+1)):=fun m hm=>by
  rcases hs with ⟨e,rfl,rfl⟩|⟨e,rfl,rfl⟩
  ·have e2:alt (csT (csY p q m)) (k+1)=alt (csT (csY p q m)) k+csT (csY p q m) k:=by rw[alt_s];unfold sgn;rw[if_pos e];grind
   rw[e2];exact(h2 m xq).add (h1 m xq)
  have e2:alt (csT (csY p q m)) (k+1)=alt (csT (csY p q m)) k-csT (csY p q m) k:=by rw[alt_s];unfold sgn;rw[if_neg e];grind
  rw[e2];exact(h2 m xq).sub (h1 m xq)
 have e3:csW w*(((k+1:Nat)):Int)=csW w*(k:Int)+csW w:=by rw[Int.natCast_add,Int.mul_add];simp
 obtain⟨n1,n2,n3⟩:=h.t.next hq ht;refine⟨⟨n1,⟨_,hS⟩,by rw[e3];rcases hs with ⟨e,rfl,rfl⟩|⟨e,rfl,rfl⟩<;>omega,(hS _ qyl).le⟩,?_⟩;have n1t2:=n1.t2;have n1t1:=n1.t1
 unfold csMF
 rw[if_neg xq]
 rcases Nat.lt_or_ge k 1 with hk|hk
 ·rw[if_pos (show k+1=1 by omega),if_pos (show k=0 by omega)];omega
 rw[if_neg (show ¬k+1=1 by omega),if_neg (show ¬k=0 by omega)];have:=n2 hk
 by_cases hk1:k=1
 ·rw[if_pos hk1];omega
 rw[if_neg hk1];have:=n3 hk xq
 omega
theorem CsF.out(h:CsF p q w k tl th c d)(h0:0<q)(hp:2*p≤q)(hk:1<k)(ht:th≤1):CsR p q w (c-th) (d+th):=by
 obtain⟨N,h1⟩:=h.t.e;obtain⟨M,h2⟩:=h.s;have hU:=u2_pos w;have e:th=1:=by have:=h.t.t1;omega
 subst e;refine⟨⟨max (max N M) (k+1),fun m hm=>?_⟩,?_⟩
 ·have hy:=csY_b (m:=m) h0 hp xq;have h3:=cs_near (x:=fun _=>0) (m:=m) (j:=k) hy xq xq;exact(h2 m xq).near h3.1 h3.2 (h1 m xq).2 hU
 have h6:=h.sw;have h7:=h.t.jw;have h8:=Int.mul_le_mul_of_nonneg_left (show(k:Int)≤(w:Int)+4 by omega) (show 0≤csW w by unfold csW;omega)
 omega
theorem CsF.bd(h:CsF p q w k tl th c d)(h0:0<q)(hp:2*p≤q):-(csW w*((w:Int)+2))-3*u2 w≤c∧c≤3*u2 w∧-(3*u2 w)≤d∧d≤3*u2 w+csW w*((w:Int)+2):=by
 obtain⟨N,h1⟩:=h.s;have hU:=u2_pos w;have h9:=h.sw;have h10:=h.t.jw;have h11:=Int.mul_le_mul_of_nonneg_left (show(k:Int)≤(w:Int)+2 by omega) (show 0≤csW w by unfold csW;omega)
 by_cases hk:k=0
 ·subst hk;have h2:=h1 N qyl;have e:alt (csT (csY p q N)) 0=0:=rfl;rw[e] at h2;have a:=h2.lo_le (c:=0) (by rw[Rat.zero_mul];exact Rat.le_refl);have b:=h2.le_hi (c:=0) (by rw[Rat.zero_mul];exact Rat.le_refl)
  omega
 have h2:=cs_bd (N:=N) (m:=N+1) h0 hp xq xq (h1 (N+1) xq)
 omega
end
theorem flr_gr{b w:Nat}{a:Int}(h:b≤w):flr (gr w a*(((2^b:Nat):Int):Rat))=a/u2 (w-b):=by
 have e:u2 w=u2 b*u2 (w-b):=by rw[←u2_add,show b+(w-b)=w by omega]
 have hb:=castI_pos (u2_pos b);have hs:=castI_pos (u2_pos (w-b));rw[show(((2^b:Nat):Int):Rat)=(u2 b:Rat) from rfl,←flr_div (u2_pos (w-b))]
 congr 1
 unfold gr
 rw[e,Rat.intCast_mul];generalize (u2 b:Rat)=x at *;generalize (u2 (w-b):Rat)=y at *;have hx:x≠0:=by grind
 have hy:y≠0:=by grind
 grind
end Nt
open Go.RowKit
namespace Nt
def nrZ(q:Rat)(k:Nat):Int:=flr (q*((2^k:Nat):Rat)+1/2)
theorem nr_mk{z:Int}{D k:Nat}(hD:0<D):mkRat ((z*((2^(k+1):Nat):Int)+(D:Int))/((D*2^1:Nat):Int)) (2^k)=gr k (nrZ (mkRat z D) k):=by
 have e:mkRat z D*((2^k:Nat):Rat)+1/2=mkRat (z*((2^(k+1):Nat):Int)+(D:Int)) (D*2^1):=by
  rw[shl_mk,←mk_div,←mk_div,Rat.intCast_add,Rat.intCast_mul,Rat.intCast_mul];have hd:=cast_pos hD
  have h2:(((D*2^1:Nat):Int):Rat)=2*(D:Rat):=by
   have:(((D*2^1:Nat):Int):Rat)=((D*2:Nat):Rat):=rfl;rw[this,Rat.natCast_mul];have e2:((2:Nat):Rat)=2:=rfl;rw[e2];grind
  have h3:(((2^(k+1):Nat):Int):Rat)=2*(((2^k:Nat):Int):Rat):=by
   have:(((2^(k+1):Nat):Int):Rat)=((2^k*2:Nat):Rat):=rfl;rw[this,Rat.natCast_mul];have e2:((2:Nat):Rat)=2:=rfl;have e3:(((2^k:Nat):Int):Rat)=((2^k:Nat):Rat):=rfl;rw[e2,e3];grind
  have h4:((D:Int):Rat)=(D:Rat):=rfl;rw[h2,h3,h4];have hd':(D:Rat)≠0:=by grind
  grind
 unfold nrZ
 rw[e,flr_mk (Nat.mul_pos hD xw),←mk_div]
 rfl
theorem flr_half(z:Int):flr ((z:Rat)+1/2)=z:=by
 have h:=flr_b ((z:Rat)+1/2);obtain⟨h1,h2⟩:=h;have e1:((flr ((z:Rat)+1/2):Int):Rat)<((z+1:Int):Rat):=by rw[Rat.intCast_add];have:((1:Int):Rat)=1:=rfl;rw[this];grind
 have e2:((z:Int):Rat)<((flr ((z:Rat)+1/2)+1:Int):Rat):=by grind
 have k1:=Rat.intCast_lt_intCast.1 e1;have k2:=Rat.intCast_lt_intCast.1 e2
 omega
theorem nr_gr(z:Int)(k:Nat):flr (gr k z*(((2^k:Nat):Int):Rat)+((1:Int):Rat)/((2:Int):Rat))=z:=by
 have h:=gr_mul k z;have e:(u2 k:Rat)=(((2^k:Nat):Int):Rat):=rfl;rw[e] at h;rw[h];exact flr_half z
def coZ(x y:Rat)(k:Nat):Int:=nrZ ((x+y)*(((1:Int):Rat)/((2:Int):Rat))) k
theorem digits_small{N:Nat}(h0:0<N)(h1:N<4294967296):digits N=[(N:Int)]:=by
 rw[digits,if_neg xq,show N/4294967296=0 by omega,zxa,show N%4294967296=N by omega]
end Nt
theorem NatN.one_len{u:World}{x:Sl}{N K:Nat}(h:NatN u x N K)(h1:N<4294967296):x.n=if N=0 then 0 else 1:=by
 rw[h.1]
 split
 ·rename_i e;subst e;exact dl_zero
 rename_i e
 unfold dl
 rw[digits_small xq h1];rfl
theorem NatN.one_cell{u:World}{x:Sl}{N K:Nat}(h:NatN u x N K)(h0:0<N)(h1:N<4294967296):∃b o,x.a=some ⟨b,o,none⟩∧u.cell? ⟨b,o+0*1,none⟩=some (.int .u32 (N:Int)):=by
 have hn:=h.one_len h1;rw[if_neg xq] at hn;have h2:=h.2.1;rw[digits_small h0 h1] at h2;obtain⟨b,o,e,hc⟩:=ints_at h2 (i:=0) xq;exact⟨b,o,e,hc⟩
end Go.Proofs.YtcpnfblekhgmgaaGreat
namespace Go.Proofs.YtcpnfblekhgmgaaGreat
open Nt
namespace Nt
def force{α:Type}(n:Nat)(k:Nat→α):α:=Nat.rec (k 0) (fun m _=>k (m+1)) n
theorem force_eq{α:Type}(n:Nat)(k:Nat→α):force n k=k n:=by cases n<;>rfl
def cdn(a d:Nat):Nat:=(a+d-1)/d
theorem cdn_cdiv{a d:Nat}(hd:0<d):((cdn a d:Nat):Int)=cdiv (a:Int) (d:Int):=by
 have h1:=cd_mul (b:=(a:Int)) (d:=(d:Int)) xq;have h2:=Nat.div_mul_le_self (a+d-1) d;have h3:=Nat.lt_div_mul_add (a:=a+d-1) hd;have e:cdn a d=(a+d-1)/d:=rfl;rw[←e] at h2 h3
 have k1:((cdn a d:Nat):Int)*(d:Int)<(cdiv (a:Int) (d:Int)+1)*(d:Int):=by
  rw[Int.add_mul,←Int.natCast_mul];omega
 have k2:cdiv (a:Int) (d:Int)*(d:Int)<(((cdn a d:Nat):Int)+1)*(d:Int):=by
  rw[Int.add_mul,←Int.natCast_mul];omega
 have k3:=Int.lt_of_mul_lt_mul_right k1 xq;have k4:=Int.lt_of_mul_lt_mul_right k2 xq
 omega
def sumAB(a:Nat→Rat):Nat→Rat×Rat
 | 0=>(0,0)
 | n+1=>((sumAB a n).2,(sumAB a n).1+a n)
theorem alt_AB(a:Nat→Rat)(n:Nat):alt a n=sgn n*((sumAB a n).1-(sumAB a n).2):=by
 induction n with
 | zero=>show(0:Rat)=1*(0-0);decide +kernel
 | succ n ih=>
  rw[alt_s,ih,sgn_s];show _=-sgn n*((sumAB a n).2-((sumAB a n).1+a n))
  grind
structure EvS where
 (l h el eh ol oh:Nat)
def EvI(U:Int)(a t:Nat→Rat)(k:Nat)(s:EvS):Prop:=Enc U (s.l:Int) (s.h:Int) (t k)∧Enc U (s.el:Int) (s.eh:Int) (sumAB a k).1∧Enc U (s.ol:Int) (s.oh:Int) (sumAB a k).2
def atEv(nn:Nat)(r:Nat):Nat→Nat→Nat→Nat→Nat→Nat→Nat→EvS:=
 Nat.rec (fun _ l h el eh ol oh=>⟨l,h,el,eh,ol,oh⟩)
  (fun _ ih k l h el eh ol oh=>
   force (l/nn) fun l'=>force (cdn h nn) fun h'=>force (2*k+1) fun d=>force (l/d) fun tl=>force (cdn h d) fun th=>
   force (el+tl) fun el'=>force (eh+th) fun eh'=>ih (k+1) l' h' ol oh el' eh') r
theorem Enc.overN{U:Int}{a b d:Nat}{x:Rat}(h:Enc U (a:Int) (b:Int) x)(hd:0<d):Enc U ((a/d:Nat):Int) ((cdn b d:Nat):Int) (x/(d:Rat)):=by
 rw[cdn_cdiv hd];exact h.over (d:=(d:Int)) xq
theorem atEv_ok{n:Nat}(hn:0<n){U:Int}:∀r k l h el eh ol oh,EvI U (atT n) (atP n) k ⟨l,h,el,eh,ol,oh⟩→EvI U (atT n) (atP n) (k+r) (atEv (n*n) r k l h el eh ol oh):=by
 intro r
 induction r with
 | zero=>intro k l h el eh ol oh hi;exact hi
 | succ r ih=>
  intro k l h el eh ol oh hi;obtain⟨h1,h2,h3⟩:=hi;have t:Enc U ((l/(2*k+1):Nat):Int) ((cdn h (2*k+1):Nat):Int) (atT n k):=h1.overN xq;have p:Enc U ((l/(n*n):Nat):Int) ((cdn h (n*n):Nat):Int) (atP n (k+1)):=h1.overN (Nat.mul_pos hn hn);have e0:atEv (n*n) (r+1) k l h el eh ol oh=force (l/(n*n)) fun l'=>force (cdn h (n*n)) fun h'=>force (2*k+1) fun d=>force (l/d) fun tl=>force (cdn h d) fun th=>force (el+tl) fun el'=>force (eh+th) fun eh'=>atEv (n*n) r (k+1) l' h' ol oh el' eh':=rfl
  have e:atEv (n*n) (r+1) k l h el eh ol oh=atEv (n*n) r (k+1) (l/(n*n)) (cdn h (n*n)) ol oh (el+l/(2*k+1)) (eh+cdn h (2*k+1)):=by
   rw[e0];simp only[force_eq]
  rw[show k+(r+1)=k+1+r by omega,e];exact ih (k+1) _ _ _ _ _ _ ⟨p,h3,h2.add t⟩
theorem ev_late{U:Int}{a:Nat→Rat}{k j0 e:Nat}{s:EvS}(hU:0<U)(h0:∀j,0≤a j)(hd:∀j,j0≤j→a (j+1)≤a j)(hk:j0≤k)(hk2:k%2=0)(h1:Enc U (s.el:Int) (s.eh:Int) (sumAB a k).1)(h2:Enc U (s.ol:Int) (s.oh:Int) (sumAB a k).2)(he:a k*(U:Rat)≤(e:Rat)):∀m,k≤m→Enc U ((s.el:Int)-(s.oh:Int)-(e:Int)) ((s.eh:Int)-(s.ol:Int)+(e:Int)) (alt a m):=by
 intro m hm;have h3:=alt_near h0 hd hk hm;have h4:=h1.sub h2
 have e4:(sumAB a k).1-(sumAB a k).2=alt a k:=by
  rw[alt_AB];unfold sgn;rw[if_pos hk2,Rat.one_mul]
 rw[e4] at h4;obtain⟨g1,g2⟩:=h4;have hUr:=Rat.le_of_lt (castI_pos hU);have k3:=Rat.mul_le_mul_of_nonneg_right h3.1 hUr;have k4:=Rat.mul_le_mul_of_nonneg_right h3.2 hUr;have ee:(((e:Nat):Int):Rat)=(e:Rat):=rfl
 unfold Enc
 rw[Rat.intCast_sub ((s.el:Int)-(s.oh:Int)),Rat.intCast_add,ee]
 constructor<;>grind
def atB(n w r:Nat):Int×Int:=
 let x:=atEv (n*n) r 0 (2^w/n) (cdn (2^w) n) 0 0 0 0
 ((x.el:Int)-(x.oh:Int)-(x.h:Int),(x.eh:Int)-(x.ol:Int)+(x.h:Int))
theorem Enc.zero(U:Int):Enc U ((0:Nat):Int) ((0:Nat):Int) 0:=by
 show((0:Int):Rat)≤0*(U:Rat)∧(0:Rat)*(U:Rat)≤((0:Int):Rat);rw[Rat.zero_mul];exact⟨Rat.le_refl,Rat.le_refl⟩
theorem atB_ok{n w r:Nat}(hn:0<n)(hr:r%2=0):∀m,r≤m→Enc (u2 w) (atB n w r).1 (atB n w r).2 (alt (atT n) m):=by
 have h1:Enc (u2 w) ((2^w/n:Nat):Int) ((cdn (2^w) n:Nat):Int) (atP n 0):=Enc.overN (a:=2^w) (b:=2^w) Enc.one hn;obtain⟨e2,e3,e4⟩:=atEv_ok hn (U:=u2 w) r 0 _ _ _ _ _ _ ⟨h1,Enc.zero _,Enc.zero _⟩;rw[Nat.zero_add] at e2 e3 e4;intro m hm;refine ev_late (u2_pos w) (atT_nn hn) (fun j _=>atT_le hn j) (Nat.zero_le _) hr e3 e4 ?_ m hm;have hle:atT n r≤atP n r:=div_le_self (atP_nn hn r) (cast_one xq);exact Rat.le_trans (Rat.mul_le_mul_of_nonneg_right hle (Rat.le_of_lt (castI_pos (u2_pos w)))) e2.2
def piB(w r s:Nat):Int×Int:=
 let a:=atB 5 w r
 let b:=atB 239 w s
 (a.1*16-b.2*4,a.2*16-b.1*4)
theorem piB_ok{w r s:Nat}(hr:r%2=0)(hs:s%2=0):∀m,r+s≤m→Enc (u2 w) (piB w r s).1 (piB w r s).2 (piN m):=by
 intro m hm;have e:=((atB_ok (n:=5) (w:=w) xw hr m xq).times (n:=16)).sub ((atB_ok (n:=239) (w:=w) xw hs m xq).times (n:=4))
 have e2:piN m=alt (atT 5) m*((16:Nat):Rat)-alt (atT 239) m*((4:Nat):Rat):=by
  unfold piN
  rw[Rat.mul_comm,Rat.mul_comm 4];rfl
 rw[e2];exact e
def csEv(U ql qh r:Nat):Nat→Nat→Nat→Nat→Nat→Nat→Nat→EvS:=
 Nat.rec (fun _ l h el eh ol oh=>⟨l,h,el,eh,ol,oh⟩)
  (fun _ ih k l h el eh ol oh=>
   force ((2*k+2)*(2*k+1)) fun d=>force (l*ql/U/d) fun l'=>force (cdn (cdn (h*qh) U) d) fun h'=>
   force (el+l) fun el'=>force (eh+h) fun eh'=>ih (k+1) l' h' ol oh el' eh') r
theorem Enc.prodN{U a b c d:Nat}{x y:Rat}(hU:0<U)(h:Enc (U:Int) (a:Int) (b:Int) x)(k:Enc (U:Int) (c:Int) (d:Int) y):Enc (U:Int) ((a*c/U:Nat):Int) ((cdn (b*d) U:Nat):Int) (x*y):=by
 rw[cdn_cdiv hU];exact h.prod k xq xq xq
theorem csEv_ok{U ql qh:Nat}(hU:0<U){y:Rat}(hq:Enc (U:Int) (ql:Int) (qh:Int) (y*y)):∀r k l h el eh ol oh,EvI (U:Int) (csT y) (csT y) k ⟨l,h,el,eh,ol,oh⟩→EvI (U:Int) (csT y) (csT y) (k+r) (csEv U ql qh r k l h el eh ol oh):=by
 intro r
 induction r with
 | zero=>intro k l h el eh ol oh hi;exact hi
 | succ r ih=>
  intro k l h el eh ol oh hi;obtain⟨h1,h2,h3⟩:=hi;have p:Enc (U:Int) ((l*ql/U/((2*k+2)*(2*k+1)):Nat):Int) ((cdn (cdn (h*qh) U) ((2*k+2)*(2*k+1)):Nat):Int) (csT y (k+1)):=(Enc.prodN hU h1 hq).overN (Nat.mul_pos xq xq);have e0:csEv U ql qh (r+1) k l h el eh ol oh=force ((2*k+2)*(2*k+1)) fun d=>force (l*ql/U/d) fun l'=>force (cdn (cdn (h*qh) U) d) fun h'=>force (el+l) fun el'=>force (eh+h) fun eh'=>csEv U ql qh r (k+1) l' h' ol oh el' eh':=rfl
  have e:csEv U ql qh (r+1) k l h el eh ol oh=csEv U ql qh r (k+1) (l*ql/U/((2*k+2)*(2*k+1))) (cdn (cdn (h*qh) U) ((2*k+2)*(2*k+1))) ol oh (el+l) (eh+h):=by
   rw[e0];simp only[force_eq]
  rw[show k+(r+1)=k+1+r by omega,e];exact ih (k+1) _ _ _ _ _ _ ⟨p,h3,h2.add h1⟩
def csX(U pl ph r p q:Nat):EvS:=
 force (pl*p/q) fun yl=>force (cdn (ph*p) q) fun yh=>force (yl*yl/U) fun ql=>force (cdn (yh*yh) U) fun qh=>csEv U ql qh r 0 U U 0 0 0 0
def xLo(x:EvS):Int:=(x.el:Int)-(x.oh:Int)-(x.h:Int)
def xHi(x:EvS):Int:=(x.eh:Int)-(x.ol:Int)+(x.h:Int)
theorem csX_ok{w pl ph r p q N:Nat}(hpi:∀m,N≤m→Enc (u2 w) (pl:Int) (ph:Int) (piN m))(hq:0<q)(hp:2*p≤q)(hr:1≤r)(hr2:r%2=0):∀m,max N r≤m→Enc (u2 w) (xLo (csX (2^w) pl ph r p q)) (xHi (csX (2^w) pl ph r p q)) (coN p q m):=by
 intro m hm;have hU:0<2^w:=Nat.pow_pos xw;have hy:=csY_b (m:=m) hq hp xq;have hyy:csY p q m*csY p q m≤12:=Rat.le_trans (mulm hy.2 hy.2 hy.1 hy.1) (by decide +kernel)
 have y1:Enc (((2^w:Nat):Nat):Int) ((pl*p/q:Nat):Int) ((cdn (ph*p) q:Nat):Int) (csY p q m):=by
  have h1:=(hpi m xq).times (n:=p);rw[←Int.natCast_mul,←Int.natCast_mul] at h1;exact h1.overN hq
 have q1:=Enc.prodN hU y1 y1;have hE:=csEv_ok hU q1 r 0 (2^w) (2^w) 0 0 0 0 ⟨Enc.one,Enc.zero _,Enc.zero _⟩;rw[Nat.zero_add] at hE;obtain⟨e1,e2,e3⟩:=hE
 unfold csX
 simp only[force_eq]
 exact ev_late (u2_pos w) (csT_nn _) (csT_le hyy) hr hr2 e2 e3 e1.2 m xq
end Nt
set_option maxRecDepth 20000
namespace Nt
theorem pi_ev:piB 340 84 24=(7036365627942155232378451105383714118229498621515162138157626346021022039982006998243213719805928137372,7036365627942155232378451105383714118229498621515162138157626346021022039982006998243213719805928138852):=by decide +kernel
def pl8:Nat:=1069028584064966747859680373161870783300
def ph8:Nat:=1069028584064966747859680373161870783301
theorem pi_340:∀m,110≤m→Enc (u2 340) 7036365627942155232378451105383714118229498621515162138157626346021022039982006998243213719805928137372 7036365627942155232378451105383714118229498621515162138157626346021022039982006998243213719805928138852 (piN m):=fun m hm=>by
 have h:=piB_ok (w:=340) (r:=84) (s:=24) xw xw m xq;rw[pi_ev] at h;exact h
theorem pi_128:∀m,110≤m→Enc (u2 128) (pl8:Int) (ph8:Int) (piN m):=fun m hm=>by
 have h:=pi_340 m hm;have hp:=castI_pos (u2_pos 212);have e:u2 340=u2 128*u2 212:=by rw[←u2_add]
 obtain⟨h1,h2⟩:=h;rw[e,Rat.intCast_mul,←Rat.mul_assoc] at h1 h2;have k1:((pl8:Int)*u2 212:Int)≤7036365627942155232378451105383714118229498621515162138157626346021022039982006998243213719805928137372:=by decide +kernel
 have k2:(7036365627942155232378451105383714118229498621515162138157626346021022039982006998243213719805928138852:Int)≤(ph8:Int)*u2 212:=by decide +kernel
 have r1:=Rat.le_trans (Rat.intCast_le_intCast.2 k1) h1;have r2:=Rat.le_trans h2 (Rat.intCast_le_intCast.2 k2);rw[Rat.intCast_mul] at r1 r2;exact⟨Rat.le_of_mul_le_mul_right r1 hp,Rat.le_of_mul_le_mul_right r2 hp⟩
def cs8(p q:Nat):EvS:=csX (2^128) pl8 ph8 16 p q
theorem cs8_ok{p q:Nat}(hq:0<q)(hp:2*p≤q):∃N:Nat,∀m,N≤m→Enc (u2 128) (xLo (cs8 p q)) (xHi (cs8 p q)) (coN p q m):=⟨_,csX_ok pi_128 hq hp xw xw⟩
def gapX(B S T:Nat)(x:EvS):Bool:=
 force (x.el-x.oh-x.h) fun lo=>force (x.eh+x.h-x.ol) fun hi=>force (lo/T) fun z=>
  Nat.ble 1 lo&&(Nat.ble ((z*B+1)*S) lo&&Nat.ble hi ((z*B+B-1)*S))
def gapB(p q b g:Nat):Bool:=gapX (2^(g-b)) (2^(128-g)) (2^(128-b)) (cs8 p q)
theorem gapB_ok{p q b g:Nat}(h:gapB p q b g=true)(hq:0<q)(hp:2*p≤q)(hb:b≤g)(hg:g≤128):Gap (coN p q) b g:=by
 unfold gapB gapX at h
 simp only[force_eq,Bool.and_eq_true,Nat.ble_eq] at h
 obtain⟨h1,h2,h3⟩:=h;have k:=cs8_ok hq hp;generalize cs8 p q=x at *;have e1:xLo x=((x.el-x.oh-x.h:Nat):Int):=by unfold xLo;omega
 have e2:xHi x≤((x.eh+x.h-x.ol:Nat):Int):=by unfold xHi;omega
 generalize x.el-x.oh-x.h=lo at *;generalize x.eh+x.h-x.ol=hi at *;have hB:=Nat.pow_pos (n:=g-b) (show 0<2 by decide);refine Gap.of k ((lo/2^(128-b):Nat):Int) hb hg ?_ ?_
 ·rw[e1];have:=Int.ofNat_le.2 h2;rw[Int.natCast_mul,Int.natCast_add,Int.natCast_mul] at this;exact this
 refine Int.le_trans e2 ?_;have:=Int.ofNat_le.2 h3;rw[Int.natCast_mul,Int.natCast_sub xq,Int.natCast_add,Int.natCast_mul] at this;exact this
def gapP(b g q n:Nat):Bool:=Nat.rec true (fun p ih=>(bif Nat.ble (2*p+3) q then bif Nat.beq (3*p+3) q then true else gapB (p+1) q b g else true)&&ih) n
def gapN(b g n:Nat):Bool:=Nat.rec true (fun q ih=>gapP b g (q+1) ((q+1)/2)&&ih) n
theorem gapP_s(b g q n:Nat):gapP b g q (n+1)=((bif Nat.ble (2*n+3) q then bif Nat.beq (3*n+3) q then true else gapB (n+1) q b g else true)&&gapP b g q n):=rfl
theorem gapN_s(b g n:Nat):gapN b g (n+1)=(gapP b g (n+1) ((n+1)/2)&&gapN b g n):=rfl
theorem gapP_ok{b g q:Nat}:∀n p,gapP b g q n=true→1≤p→p≤n→2*p<q→3*p≠q→gapB p q b g=true:=by
 intro n
 induction n with
 | zero=>intro p _ h1 h2;omega
 | succ n ih=>
  intro p h h1 h2 h3 h4;have h':=h;rw[gapP_s,Bool.and_eq_true] at h'
  by_cases e:p=n+1
  ·subst e;have h5:=h'.1
   rw[show Nat.ble (2*n+3) q=true by rw[Nat.ble_eq];omega,show Nat.beq (3*n+3) q=false by
    cases hh:Nat.beq (3*n+3) q with
    | false=>rfl
    | true=>exact absurd (Nat.eq_of_beq_eq_true hh) xq,cond_true,cond_false] at h5
   exact h5
  exact ih p h'.2 h1 xq h3 h4
theorem gapN_ok{b g:Nat}:∀n q,gapN b g n=true→1≤q→q≤n→gapP b g q (q/2)=true:=by
 intro n
 induction n with
 | zero=>intro q _ h1 h2;omega
 | succ n ih=>
  intro q h h1 h2;have h':=h;rw[gapN_s,Bool.and_eq_true] at h'
  by_cases e:q=n+1
  ·subst e;exact h'.1
  exact ih q h'.2 h1 xq
def GapQ(q b:Nat):Prop:=∃g,g≤300∧∀p,1≤p→2*p<q→3*p≠q→Gap (coN p q) b g
theorem gapQ_of{b g n q:Nat}(h:gapN b g n=true)(hb:b≤g)(hg:g≤128)(h1:1≤q)(hq:q≤n):GapQ q b:=
 ⟨g,by omega,fun p hp1 hp h3=>gapB_ok (gapP_ok _ p (gapN_ok n q h xq hq) hp1 xq hp h3) xq xq hb hg⟩
theorem gap_64:gapN 64 80 16=true:=by decide +kernel
theorem gapQ_16{q:Nat}(h1:1≤q)(hq:q≤16):GapQ q 64:=gapQ_of gap_64 xw xw h1 hq
theorem csT_diff{y z:Rat}(h0:0≤y)(h:y≤z):∀j,1≤j→0≤csT z j-csT y j∧csT y j*(z*z-y*y)≤z*z*(csT z j-csT y j):=by
 have hyy:=csq_nn y;have hzy:y*y≤z*z:=mulm h h h0 h0;intro j hj
 induction j with
 | zero=>omega
 | succ j ih=>
  have hd:(0:Rat)<(((2*j+2)*(2*j+1):Nat):Rat):=cast_pos (Nat.mul_pos xq xq);have ty:=csT_nn y j;have tz:=csT_nn z j;have e1:csT y (j+1)=csT y j*(y*y)/(((2*j+2)*(2*j+1):Nat):Rat):=rfl;have e2:csT z (j+1)=csT z j*(z*z)/(((2*j+2)*(2*j+1):Nat):Rat):=rfl;have hi:=Rat.le_of_lt (Rat.inv_pos.2 hd)
  have k:0≤csT z j*(z*z)-csT y j*(y*y)∧csT y j*(y*y)*(z*z-y*y)≤z*z*(csT z j*(z*z)-csT y j*(y*y)):=by
   by_cases h1:j=0
   ·subst h1;have f1:csT y 0=1:=rfl;have f2:csT z 0=1:=rfl;rw[f1,f2];have:=Rat.mul_le_mul_of_nonneg_right hzy (show 0≤z*z-y*y by grind)
    constructor<;>grind
   obtain⟨a,b⟩:=ih xq;have m1:=Rat.mul_le_mul_of_nonneg_left (c:=csT z j) hzy tz;have m2:=Rat.mul_nonneg a hyy;have m3:=Rat.mul_le_mul_of_nonneg_right b hyy
   have m4:z*z*(csT z j-csT y j)*(y*y)≤z*z*(csT z j*(z*z)-csT y j*(y*y)):=by
    have:=Rat.mul_le_mul_of_nonneg_left (c:=z*z) (show(csT z j-csT y j)*(y*y)≤csT z j*(z*z)-csT y j*(y*y) by grind) (csq_nn z)
    grind
   refine⟨by grind,?_⟩;refine Rat.le_trans ?_ m4;refine Rat.le_trans ?_ m3
   grind
  rw[e1,e2,Rat.div_def,Rat.div_def];generalize ((((2*j+2)*(2*j+1):Nat):Rat))⁻¹=i at *;obtain⟨a,b⟩:=k;have a2:=Rat.mul_nonneg a hi;have b2:=Rat.mul_le_mul_of_nonneg_right b hi
  constructor<;>grind
theorem csT_diff_le{y z:Rat}(h0:0≤y)(h:y≤z)(hz:z≤8/5):∀j,1≤j→csT z (j+1)-csT y (j+1)≤csT z j-csT y j:=by
 intro j hj;obtain⟨a,b⟩:=csT_diff h0 h j hj
 have hd:((12:Nat):Rat)≤(((2*j+2)*(2*j+1):Nat):Rat):=Rat.natCast_le_natCast.2 (by
  have:=Nat.mul_le_mul (show 4≤2*j+2 by omega) (show 3≤2*j+1 by omega);omega)
 have e1:csT y (j+1)=csT y j*(y*y)/(((2*j+2)*(2*j+1):Nat):Rat):=rfl;have e2:csT z (j+1)=csT z j*(z*z)/(((2*j+2)*(2*j+1):Nat):Rat):=rfl;have hzz:z*z≤6:=Rat.le_trans (mulm hz hz (Rat.le_trans h0 h) (Rat.le_trans h0 h)) (by decide +kernel)
 have e3:csT z j*(z*z)/(((2*j+2)*(2*j+1):Nat):Rat)-csT y j*(y*y)/(((2*j+2)*(2*j+1):Nat):Rat)=(csT z j*(z*z)-csT y j*(y*y))/(((2*j+2)*(2*j+1):Nat):Rat):=by
  rw[Rat.div_def,Rat.div_def,Rat.div_def];grind
 rw[e1,e2,e3];refine dv_le (cast_pos (Nat.mul_pos xq xq)) ?_;have m1:=Rat.mul_le_mul_of_nonneg_left (c:=csT z j-csT y j) hd a;have m2:=Rat.mul_le_mul_of_nonneg_left (c:=csT z j-csT y j) hzz a;have e12:((12:Nat):Rat)=12:=rfl;rw[e12] at m1
 grind
theorem alt_sub(a b:Nat→Rat)(n:Nat):alt a n-alt b n=alt (fun j=>a j-b j) n:=by
 induction n with
 | zero=>show(0:Rat)-0=0;decide +kernel
 | succ n ih=>rw[alt_s,alt_s,alt_s,←ih];grind
theorem coN_mono{p q p' q' m:Nat}(hq:0<q)(hq':0<q')(h:p*q'≤p'*q)(hp:2*p'≤q')(hm:1≤m):coN p' q' m≤coN p q m:=by
 have hb:=csY_b (m:=m) hq' hp hm;have hpi:=Rat.le_trans (show(0:Rat)≤157/50 by decide +kernel) (piN_b hm).1
 have hy:csY p q m≤csY p' q' m:=by
  unfold csY
  have k:=Rat.natCast_le_natCast.2 h;rw[Rat.natCast_mul,Rat.natCast_mul] at k;have:=Rat.mul_le_mul_of_nonneg_left k hpi;have a:=cast_pos hq;have b:=cast_pos hq';refine dv_le a ?_;refine Rat.le_of_mul_le_mul_right (c:=(q':Rat)) ?_ b;have e:=div_mul_c (x:=piN m*(p':Rat)) b
  have e2:piN m*(p':Rat)/(q':Rat)*(q:Rat)*(q':Rat)=piN m*((p':Rat)*(q:Rat)):=by
   rw[Rat.mul_assoc,Rat.mul_comm (q:Rat),←Rat.mul_assoc,e,Rat.mul_assoc]
  rw[e2,Rat.mul_assoc];exact this
 have hy0:0≤csY p q m:=div_nn (Rat.mul_nonneg hpi (Rat.natCast_le_natCast.2 (Nat.zero_le p))) (cast_pos hq)
 have hD:∀j,0≤csT (csY p' q' m) j-csT (csY p q m) j:=fun j=>by
  by_cases hj:j=0
  ·subst hj;show(0:Rat)≤1-1;decide +kernel
  exact(csT_diff hy0 hy j xq).1
 obtain⟨d,rfl⟩:∃d,m=1+d:=⟨m-1,by omega⟩
 have k:=alt_tail (a:=fun j=>csT (csY p' q' (1+d)) j-csT (csY p q (1+d)) j) (j0:=1) hD (fun j hj=>csT_diff_le hy0 hy hb.2 j hj) d 1 xq;rw[←alt_sub,←alt_sub] at k;have e1:sgn 1=-1:=rfl;have f1:∀y:Rat,alt (csT y) 1=1:=fun y=>by show 0+(1:Rat)*1=1;decide +kernel
 rw[e1,f1,f1] at k
 unfold coN
 grind
theorem coN_scale{p q k:Nat}(hk:0<k)(hq:0<q):coN (k*p) (k*q)=coN p q:=by
 funext m
 unfold coN csY
 congr 2
 rw[Rat.natCast_mul,Rat.natCast_mul];have a:=cast_pos hk;have b:=cast_pos hq;have a':(k:Rat)≠0:=by grind
 have b':(q:Rat)≠0:=by grind
 grind
theorem Gap.scale{p q k b g:Nat}(hk:0<k)(hq:0<q):Gap (coN (k*p) (k*q)) b g↔Gap (coN p q) b g:=by rw[coN_scale hk hq]
end Nt
namespace Nt
open Classical in
noncomputable def flo(X:Nat→Rat)(b:Nat):Int:=if h:∃z,FlO X b z then h.choose else 0
theorem FlO.flo{X:Nat→Rat}{b:Nat}{z:Int}(h:FlO X b z):flo X b=z:=by
 have hz:∃z,FlO X b z:=⟨z,h⟩
 unfold Nt.flo
 rw[dif_pos hz];exact hz.choose_spec.uniq h
theorem Gap.flO{X:Nat→Rat}{b g:Nat}(h:Gap X b g):FlO X b (flo X b):=by
 obtain⟨hbg,z,N,h1⟩:=h;have hB:=u2_pos (g-b);have e:u2 g=u2 b*u2 (g-b):=by rw[←u2_add,show b+(g-b)=g by omega]
 have hr:=castI_pos hB
 have k:FlO X b z:=⟨N,fun m hm=>by
  obtain⟨a,c⟩:=h1 m hm;rw[e,Rat.intCast_mul,←Rat.mul_assoc] at a c;have a2:=Rat.le_trans (Rat.intCast_le_intCast.2 (show z*u2 (g-b)≤z*u2 (g-b)+1 by omega)) a;rw[Rat.intCast_mul] at a2;refine⟨Rat.le_of_mul_le_mul_right a2 hr,?_⟩
  by_cases h6:X m*(u2 b:Rat)<((z+1:Int):Rat)
  ·exact h6
  have h7:=Rat.mul_le_mul_of_nonneg_right (Rat.not_lt.1 h6) (Rat.le_of_lt hr);have h8:=Rat.le_trans h7 c;rw[←Rat.intCast_mul] at h8;have:=Rat.intCast_le_intCast.1 h8;rw[Int.add_mul] at this
  omega⟩
 rw[k.flo];exact k
def fold(p:Int)(q:Nat):Nat:=let r:=(Int.tmod p (2*(q:Int))).natAbs;if q<r then 2*q-r else r
theorem fold_le(p:Int)(q:Nat)(hq:0<q):fold p q≤q:=by
 have h:(Int.tmod p (2*(q:Int))).natAbs<2*q:=by
  rw[Int.natAbs_tmod];have:(2*(q:Int)).natAbs=2*q:=by omega
  rw[this];exact Nat.mod_lt _ xq
 unfold fold
 dsimp only
 split<;>omega
theorem fold_mod(p:Int)(q:Nat)(hq:0<q):(fold p q:Int)=p%(2*(q:Int))∨(fold p q:Int)=2*(q:Int)-p%(2*(q:Int)):=by
 have hm:0<2*(q:Int):=by omega
 have h1:=Int.emod_nonneg p (b:=2*(q:Int)) xq;have h2:=Int.emod_lt_of_pos p hm
 have h3:Int.tmod p (2*(q:Int))=p%(2*(q:Int))∨Int.tmod p (2*(q:Int))=p%(2*(q:Int))-2*(q:Int):=by
  rcases Int.lt_or_le p 0 with h|h
  ·have e1:=Int.tmod_add_mul_tdiv p (2*(q:Int));have e2:=Int.emod_add_mul_ediv p (2*(q:Int))
   have e3:Int.tmod p (2*(q:Int))≤0:=by
    have h8:=Int.neg_tmod p (2*(q:Int));have h9:Int.tmod (-p) (2*(q:Int))=(-p)%(2*(q:Int)):=Int.tmod_eq_emod_of_nonneg xq;have h10:=Int.emod_nonneg (-p) (b:=2*(q:Int)) xq
    omega
   have e4:-(2*(q:Int))<Int.tmod p (2*(q:Int)):=Int.lt_tmod_of_pos p hm;generalize Int.tmod p (2*(q:Int))=t at *;generalize p%(2*(q:Int))=s at *;generalize p.tdiv (2*(q:Int))=x at *;generalize p/(2*(q:Int))=y at *;generalize 2*(q:Int)=M at *;have e5:M*(x-y)=s-t:=by rw[Int.mul_sub];omega
   have e6:0≤M*(x-y):=by omega
   have e7:M*(x-y)<M*2:=by omega
   have e8:0≤x-y:=Int.nonneg_of_mul_nonneg_right e6 hm;have e9:x-y<2:=Int.lt_of_mul_lt_mul_left e7 xq;obtain h|h:x-y=0∨x-y=1:=by omega
   ·rw[h] at e5;omega
   rw[h] at e5;omega
  exact .inl (Int.tmod_eq_emod_of_nonneg h)
 unfold fold
 dsimp only
 split<;>omega
theorem fold_of{p p':Int}{q:Nat}(hq:0<q)(h:p%(2*(q:Int))=p'%(2*(q:Int))∨(p+p')%(2*(q:Int))=0):fold p q=fold p' q:=by
 have a:=fold_mod p q hq;have b:=fold_mod p' q hq;have c:=fold_le p q hq;have d:=fold_le p' q hq;have hm:0<2*(q:Int):=by omega
 have h1:=Int.emod_nonneg p (b:=2*(q:Int)) xq;have h2:=Int.emod_lt_of_pos p hm;have h3:=Int.emod_nonneg p' (b:=2*(q:Int)) xq;have h4:=Int.emod_lt_of_pos p' hm
 rcases h with h|h
 ·omega
 rw[Int.add_emod] at h
 have h5:p%(2*(q:Int))+p'%(2*(q:Int))=0∨p%(2*(q:Int))+p'%(2*(q:Int))=2*(q:Int):=by
  generalize p%(2*(q:Int))=x at *;generalize p'%(2*(q:Int))=y at *;generalize 2*(q:Int)=M at *
  by_cases hx:x+y<M
  ·rw[Int.emod_eq_of_lt xq hx] at h;exact .inl h
  have e:(x+y)%M=x+y-M:=by
   rw[←Int.sub_emod_right,Int.emod_eq_of_lt xq xq]
  omega
 omega
noncomputable def cosA(p q b:Nat):Rat×Rat:=
 if p=0 then(1,1) else if 2*p=q then(0,0) else if 3*p=q then(dnQ (1/2) b,-dnQ (-(1/2)) b)
 else(gr b (flo (coN p q) b),gr b (flo (coN p q) b+1))
noncomputable def cosF(p q b:Nat):Rat×Rat:=if q<2*p then(-(cosA (q-p) q b).2,-(cosA (q-p) q b).1) else cosA p q b
noncomputable def cosV(p:Int)(q b:Nat):Rat×Rat:=cosF (fold p q) q b
theorem cosV_turn{p k:Int}{q b:Nat}(hq:0<q):cosV (p+2*(q:Int)*k) q b=cosV p q b:=by
 unfold cosV;rw[fold_of hq (.inl (Int.add_mul_emod_self_left ..))]
theorem cosA_scale{p q b k:Nat}(hk:0<k)(hq:0<q):cosA (k*p) (k*q) b=cosA p q b:=by
 unfold cosA
 rw[coN_scale hk hq];have e1:(k*p=0)↔(p=0):=⟨fun h=>(Nat.mul_eq_zero.1 h).resolve_left xq,fun h=>by rw[h];rfl⟩
 have e2:(2*(k*p)=k*q)↔(2*p=q):=by
  rw[Nat.mul_left_comm];exact⟨fun h=>Nat.eq_of_mul_eq_mul_left hk h,fun h=>by rw[h]⟩
 have e3:(3*(k*p)=k*q)↔(3*p=q):=by
  rw[Nat.mul_left_comm];exact⟨fun h=>Nat.eq_of_mul_eq_mul_left hk h,fun h=>by rw[h]⟩
 simp only[e1,e2,e3]
theorem fold_two{p:Int}{q:Nat}:fold (2*p) (2*q)=2*fold p q:=by
 unfold fold
 dsimp only
 have e:Int.tmod (2*p) (2*((2*q:Nat):Int))=2*Int.tmod p (2*(q:Int)):=by
  rw[show(2*((2*q:Nat):Int))=2*(2*(q:Int)) by omega,Int.mul_tmod_mul_of_pos _ _ xw]
 rw[e,Int.natAbs_mul];have:(2:Int).natAbs=2:=rfl;rw[this]
 split<;>split<;>omega
theorem cosV_two{p:Int}{q b:Nat}(hq:0<q):cosV (2*p) (2*q) b=cosV p q b:=by
 unfold cosV
 rw[fold_two];generalize fold p q=r
 unfold cosF
 have e1:(2*q<2*(2*r))↔(q<2*r):=by omega
 rw[show 2*q-2*r=2*(q-r) by omega,cosA_scale xw hq,cosA_scale xw hq]
 simp only[e1]
end Nt
open Go.RowKit
namespace Nt
theorem lo4_eq(a b c d:Rat):lo (lo a b) (lo c d)=lo4 a b c d:=by unfold lo4 lo;grind
theorem hi4_eq(a b c d:Rat):hi (hi a b) (hi c d)=hi4 a b c d:=by unfold hi4 hi;grind
end Nt
theorem k_r4Add{u w:World}{a1 a2:RL}{x1 x2:Rat}{b1 b2:RL}{y1 y2:Rat}{K L:Nat}(d:Dat u w)(ha1:RatV u a1 x1 K)(ha2:RatV u a2 x2 K)(hb1:RatV u b1 y1 L)(hb2:RatV u b2 y2 L)(hK:K≤40000000)(hL:L≤40000000):qyc 81 #[IV a1 a2,IV b1 b2] w (Post u w fun v u'=>∃p q:RL,v=IV p q∧RatN u' p (Nt.lo x1 x2+Nt.lo y1 y2) (K+L+2)∧RatN u' q (Nt.hi x1 x2+Nt.hi y1 y2) (K+L+2)):=by
 refine zzl Tryz.func81 rfl Tryz.ntmps81 Tryz.results81 d ?_;refine sq9 (zzj 2 ⟨45,a1.cs++a2.cs⟩ (zzj 3 ⟨45,b1.cs++b2.cs⟩ (zzj 4 ⟨45,zw6⟩ (zzb (zzd (zzy [0,1,0,7,15,31] [(0,[]),(2,[]),(1,[]),(3,[]),(4,[]),(5,[])] xj xj (zzh 5 (.v (.agg #[.bool a1.s,a1.m.v,a1.d.v,.bool a2.s,a2.m.v,a2.d.v])) ty45 zze (zzh 7 (.v (.agg #[.bool b1.s,b1.m.v,b1.d.v,.bool b2.s,b2.m.v,b2.d.v])) ty45 zze (zzg 6 83 _ fun _ _ ac az=>qym (k_r4Trim az (ha1.ext ac) (ha2.ext ac) xq) ?_)))))))));rintro _ u16 ah ⟨ak,aj,rfl,aq,aw⟩;refine zzg 8 83 _ fun _ _ ad ay=>qym (k_r4Trim ay (hb1.ext xe) (hb2.ext xe) xq) ?_;rintro _ u24 am ⟨al,ag,rfl,ao,ap⟩;refine zzi ⟨45,ak.cs++aj.cs⟩ ty45 ?_;refine zzi ⟨45,al.cs++ag.cs⟩ ty45 ?_;refine zzb (zzd (zzy [0,1,0,4,15,0,32,0,128,511,1023,2047] [(0,[]),(1,[]),(2,[]),(3,[]),(5,[]),(6,[]),(7,[]),(8,[]),(4,[]),(9,[]),(10,[]),(11,[])] xj xj (zza 9 (.adr 2 0) (zzh 10 (.v (ak.v)) ty35 zze (zza 11 (.adr 3 0) (zzh 12 (.v (al.v)) ty35 zze (zza 14 (.adr 2 3) (zzh 15 (.v (aj.v)) ty35 zze (zza 16 (.adr 3 3) (zzh 17 (.v (ag.v)) ty35 zze (zzg 13 67 _ fun _ _ ae av=>qym (k_rqAdd av (aq.ext xe).raw (ao.ext ae).raw xq xq) ?_)))))))))));rintro _ u30 ai ⟨ab,rfl,ax⟩;refine zzg 18 67 _ fun _ _ af aA=>qym (k_rqAdd aA (aw.ext xe).raw (ap.ext xe).raw xq xq) ?_;rintro _ u36 ar ⟨aa,rfl,au⟩;refine zza 19 (.v (.agg #[.bool ab.s,ab.m.v,ab.d.v,.bool aa.s,aa.m.v,aa.d.v])) (zzi ⟨45,ab.cs++aa.cs⟩ ty45 ?_);refine zzb (zzn (ret0 [.agg #[.bool ab.s,ab.m.v,ab.d.v,.bool aa.s,aa.m.v,aa.d.v]] ⟨zzq ty45 zze,trivial⟩ fun u39 an=>?_));refine⟨ab,aa,rfl,RatN.more (K:=(K+L+2)) ?_ xq,RatN.more (K:=(K+L+2)) ?_ xq⟩
 ·exact(ax.ext xe)
 exact(au.ext an)
theorem k_r4Mul{u w:World}{a1 a2:RL}{x1 x2:Rat}{b1 b2:RL}{y1 y2:Rat}{K L:Nat}(d:Dat u w)(ha1:RatV u a1 x1 K)(ha2:RatV u a2 x2 K)(hb1:RatV u b1 y1 L)(hb2:RatV u b2 y2 L)(hK:K≤40000000)(hL:L≤40000000):qyc 60 #[IV a1 a2,IV b1 b2] w (Post u w fun v u'=>∃p q:RL,v=IV p q∧RatN u' p (lo4 (x1*y1) (x1*y2) (x2*y1) (x2*y2)) (K+L+1)∧RatN u' q (hi4 (x1*y1) (x1*y2) (x2*y1) (x2*y2)) (K+L+1)):=by
 refine zzl Tryz.func60 rfl Tryz.ntmps60 Tryz.results60 d ?_;refine sq9 (zzj 2 ⟨45,a1.cs++a2.cs⟩ (zzj 3 ⟨45,b1.cs++b2.cs⟩ (zzj 4 ⟨45,zw6⟩ (zzb (zzd (zzy [0,1,0,4,15,0,32,0,128,511,0,1024,0,4096,16383,0,32768,0,131072,524287,0,0,0,0,16777215,33554431,67108863,134217727] [(0,[]),(1,[]),(2,[]),(3,[]),(5,[]),(6,[]),(7,[]),(8,[]),(10,[]),(11,[]),(12,[]),(13,[]),(15,[]),(16,[]),(17,[]),(18,[]),(20,[]),(21,[]),(22,[]),(23,[]),(4,[]),(9,[]),(14,[]),(19,[]),(24,[]),(25,[]),(26,[]),(27,[])] xj xj (zza 9 (.adr 2 0) (zzh 10 (.v (a1.v)) ty35 zze (zza 11 (.adr 3 0) (zzh 12 (.v (b1.v)) ty35 zze (zza 14 (.adr 2 0) ?_)))))))))));refine zzh 15 (.v (a1.v)) ty35 zze (zza 16 (.adr 3 3) (zzh 17 (.v (b2.v)) ty35 zze (zza 19 (.adr 2 3) (zzh 20 (.v (a2.v)) ty35 zze (zza 21 (.adr 3 0) (zzh 22 (.v (b1.v)) ty35 zze (zza 24 (.adr 2 3) (zzh 25 (.v (a2.v)) ty35 zze (zza 26 (.adr 3 3) (zzh 27 (.v (b2.v)) ty35 zze (zzj 5 ⟨35,zw3⟩ ?_)))))))))));refine zzj 6 ⟨35,zw3⟩ (zzj 7 ⟨35,zw3⟩ (zzj 8 ⟨35,zw3⟩ (zzg 13 13 _ fun _ _ ab aW=>qym (k_rqMul aW (ha1.ext ab) (hb1.ext ab) xq xq) ?_)));rintro _ u14 am ⟨av,rfl,aA⟩;refine zzg 18 13 _ fun _ _ ag aL=>qym (k_rqMul aL (ha1.ext xe) (hb2.ext xe) xq xq) ?_;rintro _ u20 aj ⟨au,rfl,aE⟩;refine zzg 23 13 _ fun _ _ ac aR=>qym (k_rqMul aR (ha2.ext xe) (hb1.ext xe) xq xq) ?_;rintro _ u26 ak ⟨aq,rfl,aD⟩;refine zzg 28 13 _ fun _ _ aa aH=>qym (k_rqMul aH (ha2.ext xe) (hb2.ext xe) xq xq) ?_;rintro _ u32 an ⟨ax,rfl,aG⟩;refine zzi ⟨35,av.cs⟩ ty35 ?_;refine zzi ⟨35,au.cs⟩ ty35 ?_;refine zzi ⟨35,aq.cs⟩ ty35 ?_;refine zzi ⟨35,ax.cs⟩ ty35 ?_;refine zzc 44 [(4,.adr 4 0),(5,.adr 5 0),(6,.adr 6 0),(7,.adr 7 0),(8,.adr 8 0)] [(4,⟨45,zw6⟩),(5,⟨35,av.cs⟩),(6,⟨35,au.cs⟩),(7,⟨35,aq.cs⟩),(8,⟨35,ax.cs⟩)] (zzd (zzy [0,0,3,0,0,31,63,0,0,511,0,0,4095,8191,16383,32767] [(0,[]),(1,[]),(3,[]),(4,[]),(7,[]),(8,[]),(10,[]),(11,[]),(2,[]),(5,[]),(6,[]),(9,[]),(12,[]),(13,[]),(14,[]),(15,[])] xj xj (zzh 29 (.v (av.v)) ty35 zze (zzh 30 (.v (au.v)) ty35 zze (zzh 32 (.v (aq.v)) ty35 zze (zzh 33 (.v (ax.v)) ty35 zze (zzh 36 (.v (av.v)) ty35 zze (zzh 37 (.v (au.v)) ty35 zze (zzh 39 (.v (aq.v)) ty35 zze (zzh 40 (.v (ax.v)) ty35 zze (zzg 31 126 _ fun _ _ af aO=>qym (k_rqMin aO (aA.ext xe).raw (aE.ext xe).raw xq xq) ?_)))))))))));rintro _ u38 ai ⟨r36,rfl,aN⟩;refine zzg 34 126 _ fun _ _ ah aM=>qym (k_rqMin aM (aD.ext xe).raw (aG.ext xe).raw xq xq) ?_;rintro _ u44 ap ⟨r42,rfl,aT⟩;refine zzg 35 126 _ fun _ _ al aX=>qym (k_rqMin aX (aN.ext xe).raw (aT.ext al).raw xq xq) ?_;rintro _ u50 ar ⟨ad,rfl,aK⟩;refine zzg 38 127 _ fun _ _ ao aU=>qym (k_rqMax aU (aA.ext xe).raw (aE.ext xe).raw xq xq) ?_;rintro _ u56 ay ⟨r54,rfl,aI⟩;refine zzg 41 127 _ fun _ _ aw aP=>qym (k_rqMax aP (aD.ext xe).raw (aG.ext xe).raw xq xq) ?_;rintro _ u62 aF ⟨r60,rfl,aV⟩;refine zzg 42 127 _ fun _ _ az aS=>qym (k_rqMax aS (aI.ext xe).raw (aV.ext az).raw xq xq) ?_;rintro _ u68 aJ ⟨ae,rfl,aQ⟩;refine zza 43 (.v (.agg #[.bool ad.s,ad.m.v,ad.d.v,.bool ae.s,ae.m.v,ae.d.v])) (zzi ⟨45,ad.cs++ae.cs⟩ ty45 ?_)
 refine zzb (zzn (ret0 [.agg #[.bool ad.s,ad.m.v,ad.d.v,.bool ae.s,ae.m.v,ae.d.v]] ⟨zzq ty45 zze,trivial⟩ fun u71 aB=>?_));refine⟨ad,ae,rfl,RatN.more (K:=(max (max (K+L+1) (K+L+1)) (max (K+L+1) (K+L+1)))) ?_ xq,RatN.more (K:=(max (max (K+L+1) (K+L+1)) (max (K+L+1) (K+L+1)))) ?_ xq⟩
 ·rw[←lo4_eq];exact(aK.ext xe)
 rw[←hi4_eq];exact(aQ.ext aB)
section
variable {P:Program} (w:World)
theorem wpList_makeKC{ops:Array Oper}{rest:List Oper}{o:Oper}{a:Act}{Q:Exit→Act→World→Prop}
  (hg:o.guard=none) (l c:Operand) (t:TypeId) (hop:o.op=Op.makeSlice t l c) (e:TypeId) (k:IntKind) (bytes:Nat) (h1:P.underlying t=some (.slice e))
  (h2:(P.info? e).map (fun i=>(i.zero,i.size,i.bytes))=some (some (.int k 0),1,bytes))
  (kl kc:IntKind) (L C:Int) (n m:Nat) (hl:a.eval l=.int kl L) (hc:a.eval c=.int kc C) (hL:L=(n:Int)) (hC:C=(m:Int)) (hnm:n≤m) (b2:bytes*m≤281474976710656) (b3:m≤maxLen)
  (hK:∀w',OwnK k w' w.heap.size e (some ⟨w.heap.size,0,none⟩) n m (List.replicate n 0)→Below w.heap.size w w'→w'.heap.size=w.heap.size+1→wpList P ops Q rest (a.put o.dst (.slice (some ⟨w.heap.size,0,none⟩) n m)) w') :
  wpList P ops Q (o::rest) a w:=by
 obtain⟨i,hi,hz,hs,hb⟩:=info_parts h2;refine wpList_plain hg fun K hK'=>?_;subst hL hC hb;have h63:(m:Int)≤9223372036854775807:=by have:=b3;unfold maxLen at this;omega
 have hb':(i.bytes:Int)*(m:Int)≤281474976710656:=by
  have h:((i.bytes*m:Nat):Int)≤281474976710656:=by omega
  rwa [Int.natCast_mul] at h
 have hrun:=run_make (P:=P) w t e i _ h1 hi hz kl kc n m xq xq hb' h63
 unfold Oper.wp
 simp[execOp,hop,hl,hc,hrun,Result.andThen]
 have hblk:KBlk k (w.alloc (.cells (madeCells (Value.int k 0).cells (m*i.size)) e)) w.heap.size e (List.replicate m 0):=by
  unfold KBlk
  rw[heap_alloc_new,hs,Nat.mul_one]
  congr 2
  apply Array.ext'
  have h3:=toList_madeCells_one (.int k 0) m;have h4:(Value.int k 0).cells=#[Value.int k 0]:=rfl;rw[h4,h3]
  simp
 refine hK' _ _ (hK _ ⟨by simp,by simp,.inr ⟨w.heap.size,m,_,rfl,Nat.le_refl _,hblk,hnm,b3,by simp,by simp[List.take_replicate,Nat.min_eq_left hnm]⟩⟩ ((Below.refl _ _).alloc qyl _) (by simp))
end
namespace Nt
theorem bitLen_bitl{t:Nat}(h:t<4294967296):Lib.bitLen t=bitl t:=by
 rcases Nat.eq_zero_or_pos t with h0|h0
 ·subst h0;rfl
 have hb:1≤Lib.bitLen t∧2^(Lib.bitLen t-1)≤t∧t<2^Lib.bitLen t:=Lib.bitLenAux_bounds 64 t xq xq;exact(bitl_unique xq hb.2.1 hb.2.2).symm
theorem bitl_le32{t:Nat}(h:t<4294967296):bitl t≤32:=by
 rcases Nat.eq_zero_or_pos t with h0|h0
 ·subst h0;decide
 have h1:=bitl_le h0;have h3:2^(bitl t-1)<2^32:=by omega
 have:=(Nat.pow_lt_pow_iff_right (show 1<2 by omega)).1 h3
 omega
end Nt
theorem BitLen_any(A:Option Addr)(n c:Nat)(a:List Int)(w:World)(ha:SlR .u32 w A n c a)(da:Dig a)(hn:n≤1000000000):
  qyc 170 #[.slice A n c] w fun e w'=>e=.returned (.int .i64 (bitl (Nt.val a).toNat))∧w'=w:=by
 have lx:(strip a).length≤n:=by rw[←ha.1];exact zyh a
 have hx:=ha.upto (m:=(strip a).length) lx;rw[←strip_take] at hx;have hcut:=zwj A n c a w ha;have eN:=zxs da;rw[eN] at hx lx hcut;generalize hX:(Nt.val a).toNat=X at *;obtain⟨N,hN⟩:∃N,N=(digits X).length:=⟨_,rfl⟩
 rw[←hN] at hx lx hcut;clear eN hX
 rcases N with _|k
 ·have h0:Hid (bitl X=0):=by
   have:X=0:=by
    rcases Nat.eq_zero_or_pos X with h|h
    ·exact h
    have:=zwo h;omega
   show _=_;rw[this];rfl
  clear ha da
  go_enter Tryz.func170,Tryz.ntmps170
  go_wp2_with fail
  refine hcut.mono ?_;rintro e w1 ⟨rfl,rfl⟩
  go_wp2
  go_ret
  exact⟨by rw[h0.out];rfl,rfl⟩
 obtain⟨b,o,rfl,_,hc⟩:=hx.pos (i:=k) xq;have hcm:=hx.2.1;have ht:=(zyj X).at k;have hne:=norm_last (k:=k) (zxm X) hN.symm;obtain⟨t,aa⟩:∃t:Nat,(digits X)[k]?.getD 0=(t:Int):=⟨((digits X)[k]?.getD 0).toNat,by omega⟩
 have hfin:=bitl_digits hN.symm aa xq;rw[aa] at hc hne ht;have Hfin:=Lib.hid hfin;have HN:=Lib.hid hN;have hkb:((k:Int)+1==0)=false:=by rw[beq_eq_false_iff_ne];omega
 have hb32:=bitl_le32 (t:=t) xq;have hbe:=bitLen_bitl (t:=t) xq;clear hfin aa hx ha da hN
 go_enter Tryz.func170,Tryz.ntmps170
 go_wp2_with fail
 refine hcut.mono ?_;rintro e w1 ⟨rfl,rfl⟩
 go_wp2_with fail
 refine(Len32_any (t:Int) _ xq xq).mono ?_;rintro e w1 ⟨rfl,rfl⟩;rw[Int.toNat_natCast,hbe];generalize bitl t=bt at *
 go_wp2
 go_ret
 exact⟨by rw[Hfin.out];refine congrArg (fun z:Int=>Ending.returned (.int .i64 z)) ?_;omega,rfl⟩
end Go.Proofs.YtcpnfblekhgmgaaGreat

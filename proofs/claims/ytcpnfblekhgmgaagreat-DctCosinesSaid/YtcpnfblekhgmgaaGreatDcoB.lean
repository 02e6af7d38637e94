/- Parts of the proof: contracts of functions, each walked once, and plain laws. -/
import Derived.Test.YtcpnfblekhgmgaaGreatDcoA
import Derived.WalkSpells
import Derived.Lib.SliceRun
import Derived.Shelf.Small.Bits
import Derived.Ground.Names2Prog
import Derived.Lib.ItoaNum
import Derived.Laws.BitsLemmas
import Derived.Deep.DeepCutAuto
import Derived.Deep.CutBlock
import Derived.BigRegion
import Derived.Deep.RegionWith
import Derived.WalkLawsBesides
set_option linter.unusedVariables false
set_option maxHeartbeats 8000000
namespace Go.Proofs.YtcpnfblekhgmgaaGreat
open Nt
open Go.RowKit
namespace Nt
theorem sub_low{x bo y:Int}(hx:0≤x)(hx':x<4294967296)(hb:0≤bo)(hb':bo≤1)(hy:0≤y)(hy':y<4294967296):
  IntKind.u64.wrap (IntKind.u64.wrap (x-bo)-y)%4294967296=(x-bo-y)%4294967296∧IntKind.u64.wrap (IntKind.u64.wrap (x-bo)-y)/9223372036854775808=(if x-bo-y<0 then 1 else 0):=by
 rw[IntKind.wrap_u64,IntKind.wrap_u64]
 split<;>omega
theorem sub_low1{x bo:Int}(hx:0≤x)(hx':x<4294967296)(hb:0≤bo)(hb':bo≤1):
  IntKind.u64.wrap (x-bo)%4294967296=(x-bo)%4294967296∧IntKind.u64.wrap (x-bo)/9223372036854775808=(if x-bo<0 then 1 else 0):=by
 rw[IntKind.wrap_u64]
 split<;>omega
theorem sub_step{S x y:List Int}{i:Nat}{bo t:Int}(hi:i<S.length)(h:valTo S i+valTo y i=valTo x i+bo*pw i)(ht:t=x[i]?.getD 0-bo-y[i]?.getD 0)(h0:-4294967296≤t)(h1:t<4294967296):
  valTo (S.set i (t%4294967296)) (i+1)+valTo y (i+1)=valTo x (i+1)+(if t<0 then 1 else 0)*pw (i+1):=by
 rw[zxl S _ hi,zyf,zyf,pw];have e:t%4294967296=t+4294967296*(if t<0 then 1 else 0):=by split<;>omega
 rw[e];generalize (if t<0 then(1:Int) else 0)=q at *
 grind
end Nt
theorem CloneU_any(A:Option Addr)(n c:Nat)(l:List Int)(w:World)(h:SlR .u32 w A n c l)(hn:n≤1000000000):
  qyc 166 #[.slice A n c] w fun e w'=>∃A' c',e=.returned (.slice A' n c')∧SlR .u32 w' A' n c' l∧(0<n→∃a,A'=some a∧w.heap.size≤a.block∧TyB w' a.block 77)∧Below w.heap.size w w':=by
 rcases A with _|ad
 ·have h0:n=0:=by
   rcases Nat.eq_zero_or_pos n with h0|h0
   ·exact h0
   obtain⟨b,o,he,_⟩:=h.2.2.2 h0;cases he
  subst h0;have hl:l=[]:=List.eq_nil_of_length_eq_zero h.1;have Hl:=Lib.hid hl;have ke:=fun(w:World)=>Lib.run_eql_slice_nil (P:=Tryz.prog) w 31 77 none 0 c 0 0 Tryz.underlying31;clear hl
  go_enter Tryz.func166,Tryz.ntmps166
  go_wp2
  go_ret
  exact⟨none,0,rfl,by rw[Hl.out];exact SlR.nil _ _ _ (Nat.zero_le _),fun h=>absurd h xq,Below.refl _ _⟩
 have ke:=fun(w:World)=>Lib.run_eql_slice_nil (P:=Tryz.prog) w 31 77 (some ad) n c 0 0 Tryz.underlying31
 go_enter Tryz.func166,Tryz.ntmps166
 go_wp2_with (at_builtin;refine zxh _ rfl (.tmp 5) (.tmp 6) _ rfl 77 .u32 4 Tryz.underlying31 zxj w.heap.size (some ⟨w.heap.size,0,none⟩) 0 0 [] rfl ?own (some ad) n c l rfl ?slr ?h63 ?hby ?hbase ?_)
 case own=>exact(KBlk.new w 77 []).own qyl rfl (Nat.zero_le _)
 case slr=>exact h.alloc _
 case h63=>unfold maxLen;omega
 case hby=>omega
 case hbase=>simp
 intro A2 c2 w3 aa ab
 go_wp2
 go_ret
 exact⟨A2,c2,rfl,aa.slr,fun hp=>aa.ty xq,((Below.refl _ _).alloc qyl _).trans ab⟩
theorem Trim_any(A:Option Addr)(n c:Nat)(a:List Int)(w:World)(ha:SlR .u32 w A n c a)(da:Dig a)(hn:n≤1000000000):
  qyc 138 #[.slice A n c] w fun e w'=>∃A' n' c',e=.returned (.slice A' n' c')∧NatF w w' A' n' c' (Nt.val a).toNat∧Below w.heap.size w w':=by
 have lx:(strip a).length≤n:=by rw[←ha.1];exact zyh a
 have hx:=ha.upto (m:=(strip a).length) lx;rw[←strip_take] at hx;have He:=Lib.hid (zxs da)
 go_enter Tryz.func138,Tryz.ntmps138
 go_wp2_with fail
 refine(zwj _ _ _ _ _ ha).mono ?_;rintro e w1 ⟨rfl,rfl⟩
 go_wp2_with fail
 refine(CloneU_any _ _ _ _ _ hx xq).mono ?_;rintro e w1 ⟨A',c',rfl,hs,hf,hb⟩
 go_wp2
 go_ret
 exact⟨A',_,c',rfl,⟨by rw[He.out],by rw[←He.out];exact hs,hf⟩,hb⟩
theorem Sub_any(A B:Option Addr)(n c m d:Nat)(a b:List Int)(w:World)(ha:SlR .u32 w A n c a)(hb:SlR .u32 w B m d b)(da:Dig a)(db:Dig b)(hn:n≤1000000000)(hm:m≤1000000000):
  qyc 168 #[.slice A n c,.slice B m d] w fun e w'=>∃A' n' c',e=.returned (.slice A' n' c')∧NatF w w' A' n' c' (Nt.val a-Nt.val b).toNat∧Below w.heap.size w w':=by
 have lx:(strip a).length≤n:=by rw[←ha.1];exact zyh a
 have ly:(strip b).length≤m:=by rw[←hb.1];exact zyh b
 have hx:=ha.upto (m:=(strip a).length) lx;have hy:=hb.upto (m:=(strip b).length) ly;rw[←strip_take] at hx hy
 by_cases hle:Nt.val a≤Nt.val b
 ·have hcmp:cmpS (Nt.val a) (Nt.val b)≤0:=by unfold cmpS;split<;>(try split)<;>omega
  have hfin:Hid ((Nt.val a-Nt.val b).toNat=0):=by show _=_;omega
  clear hle
  go_enter Tryz.func168,Tryz.ntmps168
  go_wp2_with fail
  refine(Compare_any _ _ _ _ _ _ _ _ _ ha hb da db).mono ?_;rintro e w1 ⟨rfl,q,rfl⟩
  go_wp2
  go_ret
  refine⟨none,0,0,rfl,?_,⟨rfl,rfl,rfl,Nat.le_refl _,fun _ _=>rfl⟩⟩;rw[hfin.out];exact⟨by rw[zxa];rfl,by rw[zxa];exact SlR.nil _ _ _ (Nat.zero_le _),fun h=>absurd h xq⟩
 have hcmp:cmpS (Nt.val a) (Nt.val b)=1:=by unfold cmpS;rw[if_neg xq,if_neg xq]
 have Hcmp:=Lib.hid hcmp;have Hle:Hid (Nt.val b<Nt.val a):=by show _<_;omega
 have ev:Hid (Nt.val a=Nt.val (strip a)∧Nt.val b=Nt.val (strip b)):=⟨(zwn a).symm,(zwn b).symm⟩
 have dx:=Lib.hid (strip_dig da);have dy:=Lib.hid (strip_dig db);clear hcmp hle
 go_enter Tryz.func168,Tryz.ntmps168
 go_wp2_with fail
 refine(Compare_any _ _ _ _ _ _ _ _ _ ha hb da db).mono ?_;rintro e w1 ⟨rfl,q,rfl⟩;rw[Hcmp.out]
 go_wp2_with fail
 refine(zwj _ _ _ _ _ (ha.drewN q)).mono ?_;rintro e w1 ⟨rfl,rfl⟩
 go_wp2_with fail
 refine(zwj _ _ _ _ _ (hb.drewN q)).mono ?_;rintro e w1 ⟨rfl,rfl⟩;obtain⟨X,hX⟩:∃X,X=(strip a).length:=⟨_,rfl⟩
 obtain⟨Y,hY⟩:∃Y,Y=(strip b).length:=⟨_,rfl⟩
 have HX:Hid ((strip a).length=X):=hX.symm;have HY:Hid ((strip b).length=Y):=hY.symm
 have hYX:Hid (Y≤X):=by
  show _≤_
  rcases Nat.lt_or_ge X Y with h|h
  ·have:=len_lt dx.out dy.out (strip_norm b) xq;have h1:=ev.out;have h2:=Hle.out
   omega
  exact h
 rw[←hX] at hx lx ⊢;rw[←hY] at hy ly ⊢;generalize strip a=x at *;generalize strip b=y at *;clear ha hb da db hX hY
 go_wp2_with (at_make;refine zxg _ rfl (.tmp 21) (.tmp 21) _ rfl 77 .u32 4 Tryz.underlying31 zxj _ _ _ _ X rfl rfl ?L ?C ?b2 ?b3 ?_)
 case L=>rfl
 case C=>rfl
 case b2=>omega
 case b3=>unfold maxLen;omega
 intro w2 aa hb2' ac;have ab:Below w.heap.size w w2:=⟨hb2'.os,hb2'.tape,hb2'.output,hb2'.size,hb2'.block⟩
 obtain⟨g,hg⟩:∃g,g=w.heap.size:=⟨_,rfl⟩
 have hgw:w.heap.size≤g:=by omega
 rw[←hg] at aa ⊢;clear ac hg hb2'
 go_wp2
 go_loopw [8,25] (fun cv iv wr=>∃(i:Nat) (bo:Int) (S:List Int),i≤X∧0≤bo∧bo≤1∧cv=.int .u64 bo∧iv=.int .i64 i∧KBlk .u32 wr g 77 S∧Hid (S.length=X)∧Hid (Dig S)∧Hid (valTo S i+valTo y i=valTo x i+bo*pw i)∧Below w.heap.size w wr) (fun _ iv _=>X-(intOf iv).toNat)
 case atStart=>exact⟨0,0,_,by omega,by omega,by omega,rfl,rfl,aa,by simp[Hid],Dig.repl _,by simp[Hid,zxe],ab⟩
 case round=>
  obtain⟨i,bo,S,hi,c0,c1,rfl,rfl,hk,hS,dS,hv,hbr⟩:=hrel;clear aa ab
  by_cases hiX:i<X
  ·obtain⟨b1,o1,rfl,_,hc1⟩:=(hx.below hbr).pos hiX;have q1:=dx.out.at i;have q1a:=q1.1;have q1b:=q1.2;have hc3:=hk.cell (i:=i) (by have:=hS.out;omega);have hf3:=hk.frozen i;clear q1
   by_cases hiY:i<Y
   ·obtain⟨b2,o2,rfl,_,hc2⟩:=(hy.below hbr).pos hiY;have q2:=dy.out.at i;have q2a:=q2.1;have q2b:=q2.2;clear q2;have hiY':(i:Int)<Y:=by omega
    have Hlo:=Lib.hid (sub_low q1a q1b c0 c1 q2a q2b);have Hst:=Lib.hid (sub_step (t:=x[i]?.getD 0-bo-y[i]?.getD 0) (by have:=hS.out;omega) hv.out rfl xq xq)
    go_wp2
    go_roundw
    case rel=>
     have h1:=Hlo.out.1;have h2:=Hlo.out.2;rw[h1,h2];exact⟨i+1,_,_,by omega,by split<;>omega,by split<;>omega,rfl,by go_num,hk.set i _,by have:=hS.out;show _=_;simpa using this,dS.out.set i xq,Hst.out,hbr.setCell (p:=⟨g,i,none⟩) hgw _⟩
    case measure=>simp[intOf];omega
   have hiY':¬(i:Int)<Y:=by omega
   have e0:y[i]?.getD 0=0:=by rw[List.getElem?_eq_none (by have:=HY.out;omega)];rfl
   have Hlo:=Lib.hid (sub_low1 q1a q1b c0 c1);have Hst:=Lib.hid (sub_step (t:=x[i]?.getD 0-bo) (by have:=hS.out;omega) hv.out (by rw[e0];omega) xq xq);clear e0
   go_wp2
   go_roundw
   case rel=>
    have h1:=Hlo.out.1;have h2:=Hlo.out.2;rw[h1,h2];exact⟨i+1,_,_,by omega,by split<;>omega,by split<;>omega,rfl,by go_num,hk.set i _,by have:=hS.out;show _=_;simpa using this,dS.out.set i xq,Hst.out,hbr.setCell (p:=⟨g,i,none⟩) hgw _⟩
   case measure=>simp[intOf];omega
  obtain rfl:i=X:=by omega
  have hval:Nt.val S=Nt.val a-Nt.val b:=by
   have h1:=hv.out;have h2:=ev.out;have h3:=Hle.out;have h4:=hYX.out;rw[zyg S (by have:=hS.out;omega),zyg x (by have:=HX.out;omega),zyg y (by have:=HY.out;omega)] at h1;have h5:=val_lt dS.out;have h6:=zxc dS.out;rw[hS.out] at h5
   have h7:bo=0:=by
    rcases(show bo=0∨bo=1 by omega) with h|h
    ·exact h
    rw[h] at h1;omega
   rw[h7] at h1
   omega
  have hsl:=hk.slr_all (n:=i) (c:=i) hS.out xq yv;have hfr:=zwb (w0:=w) hk hS.out yv dS.out hgw;rw[hval] at hfr;have HF:=Lib.hid hfr;clear hval hfr
  go_wp2_with fail
  refine(zwj _ _ _ _ _ hsl).mono ?_;rintro e w1 ⟨rfl,rfl⟩
  go_wp2
  go_ret
  exact⟨_,_,_,rfl,HF.out,hbr⟩
end Go.Proofs.YtcpnfblekhgmgaaGreat
namespace Go.Proofs
open Go.Shelf
def Tryz.lays128_ren:Go.Shelf.Ren:=⟨fun|128=>197|n=>n,fun|51=>77|3=>3|4=>4|46=>42|5=>5|9=>9|n=>n,fun|n=>n⟩
theorem Tryz.lays128:Go.Proofs.Lays.n128 Tryz.prog Tryz.lays128_ren:={
 mixed:=by kernel_rfl
 f128:=Tryz.func197.trans (congrArg some (by kernel_rfl))
 t3:=Tryz.underlying3
 a3:=Tryz.isAgg3
 z3:=Tryz.sizeOf3
 v3:=Tryz.zeroValue3
 t4:=Tryz.underlying4
 a4:=Tryz.isAgg4
 z4:=Tryz.sizeOf4
 v4:=Tryz.zeroValue4
 t5:=Tryz.underlying5
 a5:=Tryz.isAgg5
 z5:=Tryz.sizeOf5
 v5:=Tryz.zeroValue5
 t9:=Tryz.underlying9
 a9:=Tryz.isAgg9
 z9:=Tryz.sizeOf9
 v9:=Tryz.zeroValue9
 t46:=Tryz.underlying42
 a46:=Tryz.isAgg42
 z46:=Tryz.sizeOf42
 v46:=Tryz.zeroValue42
 t51:=Tryz.underlying77
 a51:=Tryz.isAgg77
 z51:=Tryz.sizeOf77
 v51:=Tryz.zeroValue77 }
def Tryz.lays133_ren:Go.Shelf.Ren:=⟨fun|133=>203|128=>197|n=>n,fun|51=>77|3=>3|4=>4|46=>42|5=>5|9=>9|n=>n,fun|n=>n⟩
theorem Tryz.lays133:Go.Proofs.Lays.n133 Tryz.prog Tryz.lays133_ren:={
 mixed:=by kernel_rfl
 f128:=Tryz.func197.trans (congrArg some (by kernel_rfl))
 f133:=Tryz.func203.trans (congrArg some (by kernel_rfl))
 t3:=Tryz.underlying3
 a3:=Tryz.isAgg3
 z3:=Tryz.sizeOf3
 v3:=Tryz.zeroValue3
 t4:=Tryz.underlying4
 a4:=Tryz.isAgg4
 z4:=Tryz.sizeOf4
 v4:=Tryz.zeroValue4
 t5:=Tryz.underlying5
 a5:=Tryz.isAgg5
 z5:=Tryz.sizeOf5
 v5:=Tryz.zeroValue5
 t9:=Tryz.underlying9
 a9:=Tryz.isAgg9
 z9:=Tryz.sizeOf9
 v9:=Tryz.zeroValue9
 t46:=Tryz.underlying42
 a46:=Tryz.isAgg42
 z46:=Tryz.sizeOf42
 v46:=Tryz.zeroValue42
 t51:=Tryz.underlying77
 a51:=Tryz.isAgg77
 z51:=Tryz.sizeOf77
 v51:=Tryz.zeroValue77 }
end Go.Proofs
namespace Go.Proofs.YtcpnfblekhgmgaaGreat
open Nt
open Go.RowKit
theorem Len32_any(x:Int)(w:World)(h0:0≤x)(h1:x<4294967296):
  qyc 197 #[.int .u32 x] w fun e w'=>e=.returned (.int .i64 (Lib.bitLen x.toNat))∧w'=w:=Any.bits_Len32 Tryz.lays128 x w h0 xq
theorem LeadingZeros32_any(x:Int)(w:World)(h0:0≤x)(h1:x<4294967296):
  qyc 203 #[.int .u32 x] w fun e w'=>e=.returned (.int .i64 (32-(Lib.bitLen x.toNat:Int)))∧w'=w:=Any.bits_LeadingZeros32 Tryz.lays133 x w h0 xq
theorem lz_spec{x:Nat}(h0:0<x)(h1:x<4294967296):∃s:Nat,32-(Lib.bitLen x:Int)=s∧s<32∧2147483648≤x*2^s∧x*2^s<4294967296:=by
 have hb:1≤Lib.bitLen x∧2^(Lib.bitLen x-1)≤x∧x<2^Lib.bitLen x:=Lib.bitLenAux_bounds 64 x xq xq;have hl:Lib.bitLen x≤32:=Lib.bitLen_le x 32 xq xq;generalize Lib.bitLen x=b at *;obtain⟨p1,p2,p3⟩:=hb;have k1:2^(b-1)*2^(32-b)=2147483648:=by rw[←Nat.pow_add,show b-1+(32-b)=31 by omega]
 have k2:2^b*2^(32-b)=4294967296:=by rw[←Nat.pow_add,show b+(32-b)=32 by omega]
 have hp:0<2^(32-b):=Nat.pow_pos xq;refine⟨32-b,by omega,by omega,?_,?_⟩
 ·rw[←k1];exact Nat.mul_le_mul_right _ p2
 rw[←k2];exact Nat.mul_lt_mul_of_pos_right p3 hp
namespace Nt
theorem p2_pos(s:Nat):(0:Int)<2^s:=Int.pow_pos xw
theorem p2_le{s:Nat}(h:s<32):(2:Int)^s≤2147483648:=by
 have h1:(2:Nat)^s≤2^31:=Nat.pow_le_pow_right xq xq;have h2:((2^s:Nat):Int)≤((2^31:Nat):Int):=Int.ofNat_le.2 h1
 simpa using h2
theorem p2_split{s:Nat}(h:s<32):(2:Int)^s*2^(32-s)=4294967296:=by
 rw[←Int.pow_add,show s+(32-s)=32 by omega];rfl
theorem mod_p2{x:Int}{s:Nat}(h:s<32):(x*2^s)%4294967296%2^s=0:=by
 rw[Int.emod_emod_of_dvd _ ⟨2^(32-s),(p2_split h).symm⟩];exact Int.mul_emod_left _ _
theorem or_lift{x lo:Int}{s:Nat}(h:s<32)(h0:0≤lo)(h1:lo<2^s):bits .or .u32 (x*2^s%4294967296) lo=(x*2^s)%4294967296+lo:=by
 have hp:=p2_le h;exact bits_join .u32 32 xw (fun n h0 h1=>by rw[IntKind.wrap_u32];omega) s _ _ xq (mod_p2 h) xq h0 h1 xq
theorem hi_lift{x:Int}{s:Nat}(h:s<32)(h0:0≤x)(h1:x<4294967296):0≤x*2^s∧x*2^s<9223372036854775808∧0≤x*2^s/4294967296∧x*2^s/4294967296<2^s:=by
 have hp:=p2_le h;have hp0:=p2_pos s;have a0:0≤x*2^s:=Int.mul_nonneg h0 xq;have a1:x*2^s<4294967296*2^s:=Int.mul_lt_mul_of_pos_right h1 hp0;refine⟨a0,by omega,by omega,?_⟩
 omega
theorem dig_lift{x lo:Int}{s:Nat}(h:s<32)(h0:0≤lo)(h1:lo<2^s):0≤(x*2^s)%4294967296+lo∧(x*2^s)%4294967296+lo<4294967296:=by
 have hm:=mod_p2 (x:=x) h;have hs:=p2_split h;have hp0:=p2_pos s;have hp1:=p2_pos (32-s);generalize hy:(x*2^s)%4294967296=y at *;have y0:0≤y:=by omega
 have y1:y<4294967296:=by omega
 refine⟨by omega,?_⟩;have e:=Int.mul_ediv_add_emod y (2^s);rw[hm] at e;generalize (2:Int)^s=p at *;generalize (2:Int)^(32-s)=q at *;generalize y/p=z at *
 have hz:z<q:=by
  apply Int.lt_of_mul_lt_mul_left (a:=p) _ xq
  omega
 have:p*(z+1)≤p*q:=Int.mul_le_mul_of_nonneg_left xq xq;rw[Int.mul_add] at this
 omega
theorem lift_step{S a:List Int}{i:Nat}{lo p t:Int}(hi:i<S.length)(h:valTo S i+lo*pw i=valTo a i*p)(ht:t=a[i]?.getD 0*p):
  valTo (S.set i (t%4294967296+lo)) (i+1)+(t/4294967296)*pw (i+1)=valTo a (i+1)*p:=by
 rw[zxl S _ hi,zyf,pw];have e:=Int.mul_ediv_add_emod t 4294967296;generalize t%4294967296=r at *;generalize t/4294967296=q at *
 grind
end Nt
def LiftF(w0 w:World)(g n m s:Nat)(a:List Int):Prop:=∃S lo,w0.heap.size≤g∧KBlk .u32 w g 77 S∧S.length=m∧Dig S∧0≤lo∧(m=n+1→lo=0)∧Nt.val S+lo*pw n=Nt.val a*2^s
theorem lift_any(A:Option Addr)(n c s m:Nat)(a:List Int)(w:World)(ha:SlR .u32 w A n c a)(da:Dig a)(hn:n≤1000000000)(hs:s<32)(hm:m=n∨m=n+1):
  qyc 198 #[.slice A n c,.int .u64 s,.int .i64 m] w fun e w'=>∃g,e=.returned (.slice (some ⟨g,0,none⟩) m m)∧LiftF w w' g n m s a∧Below w.heap.size w w':=by
 have hlen:Hid (a.length=n):=ha.1;have Hda:=Lib.hid da;clear da;have hm1:n≤m∧m≤n+1:=by omega
 have Hm:=Lib.hid hm;clear hm
 go_enter Tryz.func198,Tryz.ntmps198
 go_wp2_with (at_make;refine zxg _ rfl (.tmp 11) (.tmp 11) _ rfl 77 .u32 4 Tryz.underlying31 zxj _ _ _ _ m rfl rfl ?L ?C ?b2 ?b3 ?_)
 case L=>rfl
 case C=>rfl
 case b2=>omega
 case b3=>unfold maxLen;omega
 intro w2 aa hb2' ac;have ab:Below w.heap.size w w2:=hb2';obtain⟨g,hg⟩:∃g,g=w.heap.size:=⟨_,rfl⟩
 have hgw:w.heap.size≤g:=by omega
 rw[←hg] at aa ⊢;clear ac hg hb2'
 go_wp2
 go_loopw [8,15] (fun cv iv wr=>∃(i:Nat) (lo:Int) (S:List Int),i≤n∧0≤lo∧Hid (lo<2^s)∧lo<4294967296∧cv=.int .u32 lo∧iv=.int .i64 i∧KBlk .u32 wr g 77 S∧Hid (S.length=m)∧Hid (Dig S)∧Hid (valTo S i+lo*pw i=valTo a i*2^s)∧Below w.heap.size w wr) (fun _ iv _=>n-(intOf iv).toNat)
 case atStart=>exact⟨0,0,_,by omega,by omega,p2_pos s,by omega,rfl,rfl,aa,by simp[Hid],Dig.repl _,by simp[Hid,zxe],ab⟩
 case round=>
  obtain⟨i,lo,S,hi,c0,c1,c2,rfl,rfl,hk,hS,dS,hv,hbr⟩:=hrel;clear aa ab
  by_cases hin:i<n
  ·obtain⟨b1,o1,rfl,_,hc1⟩:=(ha.below hbr).pos hin;have q1:=Hda.out.at i;have q1a:=q1.1;have q1b:=q1.2;have hc3:=hk.cell (i:=i) (by have:=hS.out;omega);have hf3:=hk.frozen i;clear q1;have Hor:=Lib.hid (or_lift (x:=a[i]?.getD 0) hs c0 c1.out);have Hdi:=Lib.hid (dig_lift (x:=a[i]?.getD 0) hs c0 c1.out);have Hhi:=Lib.hid (hi_lift hs q1a q1b);have Hst:=Lib.hid (lift_step (p:=2^s) (t:=a[i]?.getD 0*2^s) (by have:=hS.out;omega) hv.out rfl)
   go_wp2
   go_roundw
   case rel=>
    have h1:=Hhi.out;have h2:=p2_le hs;have e1:IntKind.u64.wrap (a[i]?.getD 0*2^s)/4294967296%4294967296=a[i]?.getD 0*2^s/4294967296:=by rw[IntKind.wrap_u64];omega
    rw[e1,Hor.out];exact⟨i+1,_,_,by omega,h1.2.2.1,h1.2.2.2,by omega,rfl,by go_num,hk.set i _,by have:=hS.out;show _=_;simpa using this,dS.out.set i Hdi.out,Hst.out,hbr.setCell (p:=⟨g,i,none⟩) hgw _⟩
   case measure=>simp[intOf];omega
  obtain rfl:i=n:=by omega
  rcases Hm.out with hm|hm
  ·subst hm
   have hval:Nt.val S+lo*pw m=Nt.val a*2^s:=by
    have h1:=hv.out;rw[zyg S (by have:=hS.out;omega),zyg a (by have:=hlen.out;omega)] at h1;exact h1
   have HF:=Lib.hid hval;clear hval
   go_wp2
   go_ret
   exact⟨g,rfl,⟨S,lo,hgw,hk,hS.out,dS.out,c0,fun h=>by omega,HF.out⟩,hbr⟩
  subst hm;have hc3:=hk.cell (i:=i) (by have:=hS.out;omega);have hf3:=hk.frozen i
  have hval:Nt.val (S.set i lo)+0*pw i=Nt.val a*2^s:=by
   have h1:=hv.out;rw[zyg a (by have:=hlen.out;omega)] at h1;rw[←zyg (S.set i lo) (n:=i+1) (by have:=hS.out;simp;omega),zxl S _ (by have:=hS.out;omega),←h1,Int.mul_comm (pw i)]
   simp
  have HF:=Lib.hid hval;clear hval
  go_wp2
  go_ret
  exact⟨g,rfl,⟨S.set i lo,0,hgw,hk.set i lo,by have:=hS.out;simpa using this,dS.out.set i ⟨c0,c2⟩,by omega,fun _=>rfl,HF.out⟩,hbr.setCell (p:=⟨g,i,none⟩) hgw _⟩
namespace Nt
theorem val_drop{l:List Int}{i:Nat}(h:i<l.length):val (l.drop i)=l[i]?.getD 0+4294967296*val (l.drop (i+1)):=by
 rw[List.drop_eq_getElem_cons h,val,List.getElem?_eq_getElem h];rfl
theorem val_drop_set{l:List Int}{i:Nat}(x:Int)(h:i<l.length):val ((l.set i x).drop i)=x+4294967296*val (l.drop (i+1)):=by
 rw[val_drop (by simpa using h)]
 simp[h,List.drop_set]
theorem zwm{l:List Int}{i:Nat}(h:l.length≤i):val (l.drop i)=0:=by rw[List.drop_of_length_le h];rfl
theorem low_hi{x:Int}{s:Nat}(h:s<32)(h0:0≤x)(h1:x<4294967296):0≤x*2^(32-s)∧x*2^(32-s)<18446744073709551616∧x*2^(32-s)%4294967296=x%2^s*2^(32-s):=by
 have hs:=p2_split h;have a0:=p2_pos s;have a1:=p2_pos (32-s)
 have a2:(2:Int)^(32-s)≤4294967296:=by
  have:1*(2:Int)^(32-s)≤2^s*2^(32-s):=Int.mul_le_mul_of_nonneg_right xq xq
  omega
 have b0:0≤x*2^(32-s):=Int.mul_nonneg h0 xq;have b1:x*2^(32-s)≤4294967295*2^(32-s):=Int.mul_le_mul_of_nonneg_right xq xq;refine⟨b0,by omega,?_⟩;rw[←hs,Int.mul_comm x,Int.mul_comm (2^s),Int.mul_emod_mul_of_pos _ _ a1,Int.mul_comm]
theorem low_dig{x k:Int}{s:Nat}(h:s<32)(h0:0≤x)(h1:x<4294967296)(k0:0≤k)(k1:k<2^s):
  0≤x/2^s∧x/2^s<4294967296∧0≤k*2^(32-s)∧k*2^(32-s)<4294967296∧x/2^s+k*2^(32-s)<4294967296∧bits .or .u32 (x/2^s) (k*2^(32-s))=x/2^s+k*2^(32-s):=by
 have hs:=p2_split h;have a0:=p2_pos s;have a1:=p2_pos (32-s);have e:=Int.mul_ediv_add_emod x (2^s);have m0:=Int.emod_nonneg x (b:=2^s) xq;have c0:0≤x/2^s:=Int.ediv_nonneg h0 xq
 have c1:x/2^s<2^(32-s):=by
  apply Int.lt_of_mul_lt_mul_left (a:=2^s) _ xq
  rw[hs];omega
 have d0:0≤k*2^(32-s):=Int.mul_nonneg k0 xq;have d1:(k+1)*2^(32-s)≤2^s*2^(32-s):=Int.mul_le_mul_of_nonneg_right xq xq;rw[hs,Int.add_mul] at d1;have c2:(2:Int)^(32-s)≤4294967296:=by omega
 have hj:=bits_join .u32 32 xw (fun n h0 h1=>by rw[IntKind.wrap_u32];omega) (32-s) (k*2^(32-s)) (x/2^s) d0 (Int.mul_emod_left _ _) xq c0 c1 xq;have hc:bits .or .u32 (x/2^s) (k*2^(32-s))=bits .or .u32 (k*2^(32-s)) (x/2^s):=by simp only[bits,BitVec.or_comm]
 refine⟨c0,by omega,d0,by omega,by omega,?_⟩;rw[hc,hj,Int.add_comm]
theorem low_step{S a:List Int}{i s:Nat}{k:Int}(h:s<32)(hi:i<S.length)(hl:S.length=a.length)(hv:val (a.drop (i+1))=val (S.drop (i+1))*2^s+k):
  val (a.drop i)=val ((S.set i (a[i]?.getD 0/2^s+k*2^(32-s))).drop i)*2^s+a[i]?.getD 0%2^s:=by
 rw[val_drop_set _ hi,val_drop xq,hv];have e:=Int.mul_ediv_add_emod (a[i]?.getD 0) (2^s);have hs:=p2_split h;generalize a[i]?.getD 0/2^s=q at *;generalize a[i]?.getD 0%2^s=r at *;generalize (2:Int)^s=p at *;generalize (2:Int)^(32-s)=z at *
 grind
end Nt
def LowF(w0 w:World)(g n s:Nat)(a:List Int):Prop:=∃S,w0.heap.size≤g∧KBlk .u32 w g 77 S∧S.length=n∧Dig S∧Nt.val S=Nt.val a/2^s
theorem lower_any(A:Option Addr)(n c s:Nat)(a:List Int)(w:World)(ha:SlR .u32 w A n c a)(da:Dig a)(hn:n≤1000000001)(hs:s<32):
  qyc 172 #[.slice A n c,.int .u64 s] w fun e w'=>∃g,e=.returned (.slice (some ⟨g,0,none⟩) n n)∧LowF w w' g n s a∧Below w.heap.size w w':=by
 have hlen:Hid (a.length=n):=ha.1;have Hda:=Lib.hid da;clear da
 go_enter Tryz.func172,Tryz.ntmps172
 go_wp2_with (at_make;refine zxg _ rfl (.tmp 9) (.tmp 9) _ rfl 77 .u32 4 Tryz.underlying31 zxj _ _ _ _ n rfl rfl ?L ?C ?b2 ?b3 ?_)
 case L=>rfl
 case C=>rfl
 case b2=>omega
 case b3=>unfold maxLen;omega
 intro w2 aa hb2' ac;have ab:Below w.heap.size w w2:=hb2';obtain⟨g,hg⟩:∃g,g=w.heap.size:=⟨_,rfl⟩
 have hgw:w.heap.size≤g:=by omega
 rw[←hg] at aa ⊢;clear ac hg hb2'
 go_wp2
 go_loopw [6,7] (fun cv iv wr=>∃(i:Nat) (hi k:Int) (S:List Int),i≤n∧0≤hi∧hi<4294967296∧Hid (0≤k)∧Hid (k<2^s)∧Hid (hi=k*2^(32-s))∧cv=.int .u32 hi∧iv=.int .i64 ((i:Int)-1)∧KBlk .u32 wr g 77 S∧Hid (S.length=n)∧Hid (Dig S)∧Hid (Nt.val (a.drop i)=Nt.val (S.drop i)*2^s+k)∧Below w.heap.size w wr) (fun _ iv _=>(intOf iv+1).toNat)
 case atStart=>exact⟨n,0,0,_,by omega,by omega,by omega,Int.le_refl _,p2_pos s,by simp[Hid],rfl,rfl,aa,by simp[Hid],Dig.repl _,by have:=hlen.out;show _=_;rw[zwm xq,zwm (by simp)];simp,ab⟩
 case round=>
  obtain⟨i,hi,k,S,hin,c0,c2,k0,k1,ad,rfl,rfl,hk,hS,dS,hv,hbr⟩:=hrel;clear aa ab
  rcases i with _|i
  ·have hval:Nt.val S=Nt.val a/2^s:=by
    have h1:=hv.out
    simp only[List.drop_zero] at h1
    rw[h1,Int.add_comm,Int.add_mul_ediv_right _ _ (by have:=p2_pos s;omega),Int.ediv_eq_zero_of_lt k0.out k1.out];simp
   have HF:=Lib.hid hval;clear hval
   go_wp2
   go_ret
   exact⟨g,rfl,⟨S,hgw,hk,hS.out,dS.out,HF.out⟩,hbr⟩
  obtain⟨b1,o1,rfl,hlt,_⟩:=ha.pos (i:=i) xq;obtain⟨b1',o1',he',_,hc1⟩:=(ha.below hbr).pos (i:=i) xq;obtain⟨rfl,rfl⟩:b1=b1'∧o1=o1':=by cases he';exact⟨rfl,rfl⟩
  clear he';have q1:=Hda.out.at i;have q1a:=q1.1;have q1b:=q1.2;have hc3:=hk.cell (i:=i) (by have:=hS.out;omega);have hf3:=hk.frozen i;clear q1;have hne:b1≠g:=by omega
  have Hor:=Lib.hid (low_dig hs q1a q1b k0.out k1.out);have Hhi:=Lib.hid (low_hi hs q1a q1b);have Hst:=Lib.hid (low_step hs (by have:=hS.out;omega) (by have:=hS.out;have:=hlen.out;omega) hv.out);have hin':(i:Int)<n:=by omega
  go_wp2
  go_roundw
  case rel=>
   have h1:=Hor.out;have h2:=Hhi.out;have h3:=p2_pos s;have e1:IntKind.u64.wrap (a[i]?.getD 0*2^(32-s))%4294967296=a[i]?.getD 0%2^s*2^(32-s):=by rw[IntKind.wrap_u64];omega
   have e2:=ad.out;subst e2;rw[e1,h1.2.2.2.2.2];exact⟨i,_,_,_,by omega,by omega,by omega,Int.emod_nonneg _ xq,Int.emod_lt_of_pos _ h3,rfl,rfl,rfl,hk.set i _,by have:=hS.out;show _=_;simpa using this,dS.out.set i xq,Hst.out,hbr.setCell (p:=⟨g,i,none⟩) hgw _⟩
  case measure=>simp[intOf]
end Go.Proofs.YtcpnfblekhgmgaaGreat
namespace Go.Proofs.YtcpnfblekhgmgaaGreat.Nt
theorem guess_ge{q V U P a b:Int}{Vl Ul:Int}(hP:0<P)(hV:V=a*P+Vl)(hVl:0≤Vl)(hU:U=b*P+Ul)(hUl:Ul<P)(hq:0≤q)(h:q*V≤U):q*a≤b:=by
 have h1:q*a*P≤q*V:=by
  rw[hV,Int.mul_add,Int.mul_assoc];have:0≤q*Vl:=Int.mul_nonneg hq hVl
  omega
 have h2:q*a*P<(b+1)*P:=by rw[Int.add_mul];omega
 have:=Int.lt_of_mul_lt_mul_right h2 xq
 omega
theorem guess_le{Q V U P a b c:Int}{Vl Ul:Int}(hP:0<P)(ha:0<a)(hV:V=a*P+Vl)(hVl:0≤Vl)(hVl':Vl<P)(hU:U=b*P+Ul)(hUl:0≤Ul)(hQ:0≤Q)(hQc:Q≤c)(hca:c≤a)(h:Q*a≤b):Q*V<U+V:=by
 have h1:Q*a*P≤b*P:=Int.mul_le_mul_of_nonneg_right h xq;have h2:Q*Vl≤c*Vl:=Int.mul_le_mul_of_nonneg_right hQc hVl;have h3:c*Vl≤a*Vl:=Int.mul_le_mul_of_nonneg_right hca hVl;have h4:a*Vl<a*P:=Int.mul_lt_mul_of_pos_left hVl' xq;rw[hV,Int.mul_add,←Int.mul_assoc]
 omega
structure Guess(T top v1 v2 u2 q r:Int):Prop where
 sum:top=q*v1+r
 q0:0≤q
 r0:0≤r
 ge:T≤q
structure Good(T top v1 v2 u2 q:Int):Prop where
 q0:0≤q
 q1:q<4294967296
 ge:T≤q
 le:q*(v1*4294967296+v2)≤top*4294967296+u2
theorem Guess.good{T top v1 v2 u2 q r:Int}(h:Guess T top v1 v2 u2 q r)(hq:q<4294967296)(ht:q*v2≤r*4294967296+u2):Good T top v1 v2 u2 q:=by
 refine⟨h.q0,hq,h.ge,?_⟩;have:=h.sum;rw[this]
 grind
theorem Guess.next{T top v1 v2 u2 q r:Int}(h:Guess T top v1 v2 u2 q r)(hT0:0≤T)(hT:T<4294967296)(hTle:T*(v1*4294967296+v2)≤top*4294967296+u2)(hv1:0≤v1)(ha:0<v1*4294967296+v2)(ht:4294967296≤q∨r*4294967296+u2<q*v2):Guess T top v1 v2 u2 (q-1) (r+v1):=by
 have hlt:T<q:=by
  rcases ht with ht|ht
  ·omega
  have:T*(v1*4294967296+v2)<q*(v1*4294967296+v2):=by
   have e:=h.sum;rw[e] at hTle;have:q*(v1*4294967296+v2)=q*v1*4294967296+q*v2:=by grind
   rw[this];have:(q*v1+r)*4294967296+u2=q*v1*4294967296+r*4294967296+u2:=by grind
   omega
  exact Int.lt_of_mul_lt_mul_right this xq
 have:=h.r0;exact⟨by rw[h.sum];grind,by omega,by omega,by omega⟩
theorem Guess.broke{T top v1 v2 u2 q r:Int}(h:Guess T top v1 v2 u2 q r)(htop:top<v1*4294967296+4294967296)(hr:4294967296≤r)(hv1:0<v1)(h20:0≤v2)(h2:v2<4294967296)(hu:0≤u2):Good T top v1 v2 u2 q:=by
 have hq:q<4294967296:=by
  have e:=h.sum;have:q*v1<4294967296*v1:=by omega
  exact Int.lt_of_mul_lt_mul_right this xq
 refine h.good hq ?_;have h1:q*v2≤q*4294967296:=Int.mul_le_mul_of_nonneg_left xq h.q0;have h2:r*4294967296≥4294967296*4294967296:=by omega
 omega
theorem Guess.start{T top v1 v2 u2:Int}(htop0:0≤top)(hv1:0<v1)(hT0:0≤T)(hTle:T*(v1*4294967296+v2)≤top*4294967296+u2)(h20:0≤v2)(hu:u2<4294967296):Guess T top v1 v2 u2 (top/v1) (top%v1):=by
 have e:=Int.mul_ediv_add_emod top v1;have m0:=Int.emod_nonneg top (b:=v1) xq;have m1:=Int.emod_lt_of_pos top hv1;refine⟨by rw[Int.mul_comm];omega,Int.ediv_nonneg htop0 xq,m0,?_⟩
 have h1:T*v1≤top:=by
  have:T*v1*4294967296<(top+1)*4294967296:=by
   have e2:T*(v1*4294967296+v2)=T*v1*4294967296+T*v2:=by grind
   have:=Int.mul_nonneg hT0 h20
   omega
  have:=Int.lt_of_mul_lt_mul_right this xq
  omega
 exact(Int.le_ediv_iff_mul_le hv1).2 h1
theorem ms_step{M u v:List Int}{i:Nat}{q cr bo p t:Int}(hi:i<M.length)(h:valTo M i+q*valTo v i=valTo u i+(cr+bo)*pw i)(hM:M[i]?.getD 0=u[i]?.getD 0)(hp:p=q*v[i]?.getD 0+cr)(ht:t=M[i]?.getD 0-p%4294967296-bo)(h0:-4294967296≤t)(h1:t<4294967296):
  valTo (M.set i (t%4294967296)) (i+1)+q*valTo v (i+1)=valTo u (i+1)+(p/4294967296+(if t<0 then 1 else 0))*pw (i+1):=by
 rw[zxl M _ hi,zyf,zyf,pw];have e:t%4294967296=t+4294967296*(if t<0 then 1 else 0):=by split<;>omega
 rw[e];have e2:=Int.mul_ediv_add_emod p 4294967296;generalize (if t<0 then(1:Int) else 0)=b at *;generalize p%4294967296=r at *;generalize p/4294967296=z at *;rw[hM] at ht
 grind
theorem true_digit{U V P a b Vl Ul:Int}(hP:0<P)(hV:V=a*P+Vl)(hVl:0≤Vl)(hU:U=b*P+Ul)(hUl0:0≤Ul)(hUl:Ul<P)(ha:0<a)(hb:0≤b)(h:U<4294967296*V):
  0≤U/V∧U/V<4294967296∧(U/V)*V≤U∧U<(U/V+1)*V∧(U/V)*a≤b:=by
 have hVp:0<V:=by
  have:0<a*P:=Int.mul_pos ha hP
  omega
 have hU0:0≤U:=by
  have:0≤b*P:=Int.mul_nonneg hb xq
  omega
 have e:=Int.mul_ediv_add_emod U V;have m0:=Int.emod_nonneg U (b:=V) xq;have m1:=Int.emod_lt_of_pos U hVp;have h0:0≤U/V:=Int.ediv_nonneg hU0 xq;have h1:(U/V)*V≤U:=by rw[Int.mul_comm];omega
 refine⟨h0,?_,h1,?_,guess_ge hP hV hVl hU hUl h0 h1⟩
 ·exact Int.ediv_lt_of_lt_mul hVp h
 rw[Int.add_mul,Int.mul_comm];omega
theorem Good.end{T top v1 v2 u2 q U V P Vl Ul:Int}(g:Good T top v1 v2 u2 q)(hP:0<P)(hV:V=(v1*4294967296+v2)*P+Vl)(hVl:0≤Vl)(hVl':Vl<P)(hU:U=(top*4294967296+u2)*P+Ul)(hUl:0≤Ul)(hv1:1≤v1)(hv2:0≤v2)(hT:U<(T+1)*V)(hVp:0<V):
  -V<U-q*V∧U-q*V<V:=by
 have h1:=guess_le (c:=4294967296) hP (a:=v1*4294967296+v2) xq hV hVl hVl' hU hUl g.q0 (by have:=g.q1;omega) xq g.le;refine⟨by omega,?_⟩;have h2:(T+1)*V≤(q+1)*V:=Int.mul_le_mul_of_nonneg_right (by have:=g.ge;omega) xq;have e:(q+1)*V=q*V+V:=by rw[Int.add_mul,Int.one_mul]
 omega
theorem ab_step{M R v:List Int}{i:Nat}{c t:Int}(hi:i<R.length)(h:valTo R i+c*pw i=valTo M i+valTo v i)(hR:R[i]?.getD 0=M[i]?.getD 0)(ht:t=R[i]?.getD 0+v[i]?.getD 0+c):
  valTo (R.set i (t%4294967296)) (i+1)+(t/4294967296)*pw (i+1)=valTo M (i+1)+valTo v (i+1):=by
 rw[zxl R _ hi,zyf,zyf,pw];have e:=Int.mul_ediv_add_emod t 4294967296;generalize t%4294967296=r at *;generalize t/4294967296=q at *;rw[hR] at ht
 grind
theorem ms_end0{X U V Ul q cr bo t P uN:Int}(h:X+q*V=Ul+(cr+bo)*P)(hU:U=Ul+P*uN)(ht:t=uN-cr-bo):X+P*t=U-q*V:=by
 rw[ht,hU];grind
theorem ab_end{X Y V W P t c:Int}(hP:0<P)(h:Y+c*P=X+V)(hw:W=X+P*t)(hY0:0≤Y)(hY1:Y<P)(hW0:0≤W+V)(hW1:W+V<P):c+t=0∧Y=W+V:=by
 have e:W+V=Y+P*(c+t):=by rw[hw];grind
 have h1:c+t=0:=by
  rcases Int.lt_trichotomy (c+t) 0 with h|h|h
  ·have:P*(c+t)≤P*(-1):=Int.mul_le_mul_of_nonneg_left xq xq
   omega
  ·exact h
  have:P*1≤P*(c+t):=Int.mul_le_mul_of_nonneg_left xq xq
  omega
 rw[h1] at e;exact⟨h1,by omega⟩
theorem drop_set{l:List Int}{j i:Nat}(x:Int):(l.set (j+i) x).drop j=(l.drop j).set i x:=by
 rw[List.drop_set];simp[show ¬j+i<j by omega]
theorem zxi(l:List Int)(j i:Nat):(l.drop j)[i]?.getD 0=l[j+i]?.getD 0:=by rw[List.getElem?_drop]
theorem zxv(l:List Int)(n:Nat):val l=valTo l n+pw n*val (l.drop n):=by
 rcases Nat.lt_or_ge n l.length with h|h
 ·exact val_split l n xq
 rw[zyg l h,List.drop_of_length_le h];simp[val]
theorem val_low{l:List Int}(d:Dig l){n:Nat}(h:val l<pw n):val (l.drop n)=0∧valTo l n=val l:=by
 have e:=zxv l n;have h0:=zxc (d.drop n);have h1:=zyy d n;have hp:=pw_pos n
 have hz:val (l.drop n)=0:=by
  rcases Int.lt_or_le 0 (val (l.drop n)) with h'|h'
  ·have:pw n*1≤pw n*val (l.drop n):=Int.mul_le_mul_of_nonneg_left xq xq
   omega
  omega
 rw[hz] at e;exact⟨hz,by omega⟩
end Go.Proofs.YtcpnfblekhgmgaaGreat.Nt
namespace Go.Proofs.YtcpnfblekhgmgaaGreat
open Nt
open Go.RowKit
structure Only(g:Nat)(w w':World):Prop where
 below:Below g w w'
 size:w'.heap.size=w.heap.size
 block:∀b,b≠g→w'.heap[b]? = w.heap[b]?
theorem Only.drewN(g:Nat)(w:World)(q:Nat):Only g w (w.drewN q):=⟨⟨rfl,rfl,rfl,Nat.le_refl _,fun _ _=>rfl⟩,rfl,fun _ _=>rfl⟩
theorem Only.trans{g:Nat}{w w1 w2:World}(h:Only g w w1)(k:Only g w1 w2):Only g w w2:=⟨h.below.trans k.below,k.size.trans h.size,fun b hb=>(k.block b hb).trans (h.block b hb)⟩
theorem Only.setCell{g:Nat}{w w1:World}(h:Only g w w1)(i:Nat)(u:Value):Only g w (w1.setCell ⟨g,i,none⟩ u):=
 ⟨h.below.setCell (p:=⟨g,i,none⟩) qyl u,by have:=h.size;simpa[World.setCell] using this,fun b hb=>(Below.heap_setCell w1 ⟨g,i,none⟩ u b hb).trans (h.block b hb)⟩
theorem KBlk.only{k:IntKind}{w w':World}{g b:Nat}{t:TypeId}{l:List Int}(h:KBlk k w b t l)(ho:Only g w w')(hb:b≠g):KBlk k w' b t l:=(ho.block b hb).trans h
theorem Below.only{B g:Nat}{w w1 w2:World}(h:Below B w w1)(k:Only g w1 w2)(hg:B≤g):Below B w w2:=
 ⟨k.below.os.trans h.os,k.below.tape.trans h.tape,k.below.output.trans h.output,by have:=h.size;have:=k.size;omega,fun b hb=>(k.block b xq).trans (h.block b hb)⟩
namespace Nt
theorem or_top{x y:Int}(h0:0≤x)(h1:x<4294967296)(k0:0≤y)(k1:y<4294967296):bits .or .u64 (x*4294967296) y=x*4294967296+y:=
 bits_join .u64 64 xw (fun n h0 h1=>by rw[IntKind.wrap_u64];omega) 32 _ _ xq xq xq k0 xq xq
end Nt
namespace Nt
structure DivFacts(j n:Nat)(L v:List Int)(top u2 v1 v2:Int):Prop where
 vp:0<val v
 eU:valTo (L.drop j) (n+3)=(top*4294967296+u2)*pw n+valTo (L.drop j) n
 eV:val v=(v1*4294967296+v2)*pw n+valTo v n
 t0:0≤valTo (L.drop j) (n+3)/val v
 t1:valTo (L.drop j) (n+3)/val v<4294967296
 tU:valTo (L.drop j) (n+3)<(valTo (L.drop j) (n+3)/val v+1)*val v
 tb:top<v1*4294967296+4294967296
 ta:(valTo (L.drop j) (n+3)/val v)*(v1*4294967296+v2)≤top*4294967296+u2
theorem div_facts{j n:Nat}{L v:List Int}{top u0 u1 u2 v1 v2:Int}(dv:Dig v)(dL:Dig L)(hv:v.length=n+2)(hj:j+(n+2)+1≤L.length)(e1:v1=v[n+1]?.getD 0)(e2:v2=v[n]?.getD 0)(f0:u0=L[j+(n+2)]?.getD 0)(f1:u1=L[j+(n+1)]?.getD 0)(f2:u2=L[j+n]?.getD 0)(ht:top=u0*4294967296+u1)(h1:2147483648≤v1)(hU:valTo (L.drop j) (n+3)<4294967296*val v):DivFacts j n L v top u2 v1 v2:=by
 have hp:=pw_pos n
 have eV:val v=(v1*4294967296+v2)*pw n+valTo v n:=by
  rw[←zyg v (n:=n+2) xq,zyf,zyf,←e1,←e2,pw];grind
 have eU:valTo (L.drop j) (n+3)=(top*4294967296+u2)*pw n+valTo (L.drop j) n:=by
  rw[zyf,zyf,zyf,zxi,zxi,zxi,←f0,←f1,←f2,ht];simp only[pw];grind
 have q2:=dv.at n;have p0:=dL.at (j+(n+2));have p1:=dL.at (j+(n+1));have p2:=dL.at (j+n);rw[←e2] at q2;rw[←f0] at p0;rw[←f1] at p1;rw[←f2] at p2;have hv0:=zyy dv n;obtain⟨t0,t1,_,t3,t4⟩:=true_digit hp eV hv0 eU (zyy (dL.drop j) n) (zxr (dL.drop j) n) xq xq hU;refine⟨?_,eU,eV,t0,t1,t3,?_,t4⟩
 ·have:0<(v1*4294967296+v2)*pw n:=Int.mul_pos xq hp
  omega
 have h2:valTo v n<pw n:=zxr dv n;have h3:=zyy (dL.drop j) n
 have h4:4294967296*val v<4294967296*((v1*4294967296+v2+1)*pw n):=by
  rw[eV,Int.add_mul _ 1];omega
 have h5:(top*4294967296+u2)*pw n<(4294967296*(v1*4294967296+v2+1))*pw n:=by
  rw[Int.mul_assoc 4294967296];omega
 have h6:=Int.lt_of_mul_lt_mul_right h5 xq
 omega
end Nt
def DigitF(w0 w:World)(g j N:Nat)(L v:List Int)(q:Int):Prop:=∃L',KBlk .u32 w g 77 L'∧L'.length=L.length∧Dig L'∧(∀k,k<j∨j+N+1≤k→L'[k]? = L[k]?)∧0≤q∧q<4294967296∧valTo (L.drop j) (N+1)=q*Nt.val v+valTo (L'.drop j) (N+1)∧valTo (L'.drop j) (N+1)<Nt.val v∧Only g w0 w
def DigW(w' w:World)(g gv:Nat)(L v:List Int):Prop:=KBlk .u32 w' g 77 L∧KBlk .u32 w' gv 77 v∧Only g w w'
structure DigS(wr w:World)(g gv j n i:Nat)(L v S:List Int)(q cr bo:Int):Prop where
 ku:KBlk .u32 wr g 77 S
 kv:KBlk .u32 wr gv 77 v
 only:Only g w wr
 len:S.length=L.length
 dig:Dig S
 sum:valTo (S.drop j) i+q*valTo v i=valTo (L.drop j) i+(cr+bo)*pw i
 same:∀k,k<j∨j+i≤k→S[k]? = L[k]?
theorem Nt.sub_low2{x r bo:Int}(hx:0≤x)(hx':x<4294967296)(hr:0≤r)(hr':r<4294967296)(hb:0≤bo)(hb':bo≤1):
  IntKind.u64.wrap (IntKind.u64.wrap (x-r)-bo)%4294967296=(x-r-bo)%4294967296∧IntKind.u64.wrap (IntKind.u64.wrap (x-r)-bo)/9223372036854775808=(if x-r-bo<0 then 1 else 0):=by
 rw[IntKind.wrap_u64,IntKind.wrap_u64]
 split<;>omega
theorem DigS.next{wr w:World}{g gv j n i:Nat}{L v S:List Int}{q cr bo d x p t:Int}(h:DigS wr w g gv j n i L v S q cr bo)(hne:gv≠g)(hj:j+(n+2)+1≤L.length)(hi:i<n+2)(hd:d=v[i]?.getD 0)(hx:x=S[j+i]?.getD 0)(hp:p=q*d+cr)(ht:t=x-p%4294967296-bo)(t0:-4294967296≤t)(t1:t<4294967296):
  DigS (wr.setCell ⟨g,j+i,none⟩ (.int .u32 (t%4294967296))) w g gv j n (i+1) L v (S.set (j+i) (t%4294967296)) q (p/4294967296) (if t<0 then 1 else 0):=by
 refine⟨h.ku.set _ _,h.kv.far (p:=⟨g,j+i,none⟩) hne _,h.only.setCell _ _,by rw[List.length_set];exact h.len,h.dig.set _ xq,?_,?_⟩
 ·rw[drop_set];refine ms_step (M:=S.drop j) (u:=L.drop j) (v:=v) (p:=p) (t:=t) (by have:=h.len;simp;omega) h.sum ?_ (by rw[←hd];exact hp) (by rw[zxi,←hx];exact ht) t0 t1;rw[zxi,zxi,h.same (j+i) (.inr qyl)]
 intro k hk;rw[List.getElem?_set_ne xq];exact h.same k xq
structure DigA(wr w:World)(g gv j n i:Nat)(M v R:List Int)(c:Int):Prop where
 ku:KBlk .u32 wr g 77 R
 kv:KBlk .u32 wr gv 77 v
 only:Only g w wr
 len:R.length=M.length
 dig:Dig R
 sum:valTo (R.drop j) i+c*pw i=valTo (M.drop j) i+valTo v i
 same:∀k,k<j∨j+i≤k→R[k]? = M[k]?
theorem DigA.next{wr w:World}{g gv j n i:Nat}{M v R:List Int}{c d x t:Int}(h:DigA wr w g gv j n i M v R c)(hne:gv≠g)(hj:j+(n+2)+1≤M.length)(hi:i<n+2)(hd:d=v[i]?.getD 0)(hx:x=R[j+i]?.getD 0)(ht:t=x+d+c):
  DigA (wr.setCell ⟨g,j+i,none⟩ (.int .u32 (t%4294967296))) w g gv j n (i+1) M v (R.set (j+i) (t%4294967296)) (t/4294967296):=by
 refine⟨h.ku.set _ _,h.kv.far (p:=⟨g,j+i,none⟩) hne _,h.only.setCell _ _,by rw[List.length_set];exact h.len,h.dig.set _ xq,?_,?_⟩
 ·rw[drop_set];refine ab_step (M:=M.drop j) (R:=R.drop j) (v:=v) (t:=t) (by have:=h.len;simp;omega) h.sum ?_ (by rw[zxi,←hx,←hd];exact ht);rw[zxi,zxi,h.same (j+i) (.inr qyl)]
 intro k hk;rw[List.getElem?_set_ne xq];exact h.same k xq
theorem DigS.done{wr w:World}{g gv j n:Nat}{L v S:List Int}{q cr bo u0 t T top v1 v2 u2:Int}(h:DigS wr w g gv j n (n+2) L v S q cr bo)(hj:j+(n+2)+1≤L.length)(hv:v.length=n+2)(dv:Dig v)(dL:Dig L)(hu:u0=L[j+(n+2)]?.getD 0)(ht:t=u0-cr-bo)(t0:0≤t)(t1:t<4294967296)(q0:0≤q)(q1:q<4294967296)(hF:DivFacts j n L v top u2 v1 v2)(hT:T=valTo (L.drop j) (n+3)/Nt.val v)(hG:Nt.Good T top v1 v2 u2 q)(h1:1≤v1)(h2:0≤v2):
  DigitF w (wr.setCell ⟨g,j+(n+2),none⟩ (.int .u32 t)) g j (n+2) L v q:=by
 have hs:=h.sum;rw[zyg v xq] at hs
 have e:valTo ((S.set (j+(n+2)) t).drop j) (n+2+1)=valTo (L.drop j) (n+2+1)-q*Nt.val v:=by
  rw[drop_set,zxl _ _ (by have:=h.len;simp;omega)];refine ms_end0 (Ul:=valTo (L.drop j) (n+2)) (uN:=u0) hs ?_ ht;rw[zyf,zxi,←hu]
 have hend:=hG.end (pw_pos n) hF.eV (zyy dv n) (zxr dv n) hF.eU (zyy (dL.drop j) n) h1 h2 (by rw[hT];exact hF.tU) hF.vp;refine⟨_,h.ku.set _ _,by rw[List.length_set];exact h.len,h.dig.set _ ⟨t0,t1⟩,?_,q0,q1,?_,?_,h.only.setCell _ _⟩
 ·intro k hk;rw[List.getElem?_set_ne xq];exact h.same k xq
 ·rw[e];omega
 rw[e];exact hend.2
theorem DigA.done{wr w wr0:World}{g gv j n:Nat}{L v S R:List Int}{q cr bo u0 t c T top v1 v2 u2:Int}(h0:DigS wr0 w g gv j n (n+2) L v S q cr bo)(h:DigA wr w g gv j n (n+2) (S.set (j+(n+2)) (t%4294967296)) v R c)(hj:j+(n+2)+1≤L.length)(hv:v.length=n+2)(dv:Dig v)(dL:Dig L)(hu:u0=L[j+(n+2)]?.getD 0)(ht:t=u0-cr-bo)(t0:t<0)(t1:-4294967296≤t)(q0:0≤q)(q1:q<4294967296)(hF:DivFacts j n L v top u2 v1 v2)(hT:T=valTo (L.drop j) (n+3)/Nt.val v)(hG:Nt.Good T top v1 v2 u2 q)(h1:1≤v1)(h2:0≤v2):
  R[j+(n+2)]?.getD 0=t%4294967296∧1≤q∧(t%4294967296+c)%4294967296=0∧DigitF w (wr.setCell ⟨g,j+(n+2),none⟩ (.int .u32 0)) g j (n+2) L v (q-1):=by
 have hs:=h0.sum;have ha:=h.sum;rw[zyg v xq] at hs ha
 have e:valTo (S.drop j) (n+2)+pw (n+2)*t=valTo (L.drop j) (n+2+1)-q*Nt.val v:=by
  refine ms_end0 (Ul:=valTo (L.drop j) (n+2)) (uN:=u0) hs ?_ ht;rw[zyf,zxi,←hu]
 have hend:=hG.end (pw_pos n) hF.eV (zyy dv n) (zxr dv n) hF.eU (zyy (dL.drop j) n) h1 h2 (by rw[hT];exact hF.tU) hF.vp;have hU0:=zyy (dL.drop j) (n+2+1);rw[show n+3=n+2+1 by omega] at hend;have hX:=zxr (h0.dig.drop j) (n+2);have hP:=pw_pos (n+2);have hVP:=val_lt dv;rw[hv] at hVP
 have hneg:valTo (L.drop j) (n+2+1)-q*Nt.val v<0:=by
  have:pw (n+2)*t≤pw (n+2)*(-1):=Int.mul_le_mul_of_nonneg_left xq xq
  omega
 have hq1:1≤q:=by
  rcases(show q=0∨1≤q by omega) with hq|hq
  ·rw[hq] at hneg;omega
  exact hq
 have hsl:valTo ((S.set (j+(n+2)) (t%4294967296)).drop j) (n+2)=valTo (S.drop j) (n+2):=by rw[drop_set,valTo_set_lt _ _ qyl]
 rw[hsl] at ha;have hlen:(S.set (j+(n+2)) (t%4294967296)).length=L.length:=by rw[List.length_set];exact h0.len
 obtain⟨k1,k2⟩:=ab_end hP ha e.symm (zyy (h.dig.drop j) (n+2)) (zxr (h.dig.drop j) (n+2)) (by have:=hend.1;omega) xq;refine⟨?_,hq1,by omega,_,h.ku.set _ _,by rw[List.length_set,h.len,hlen],h.dig.set _ xq,?_,by omega,by omega,?_,?_,h.only.setCell _ _⟩
 ·rw[h.same _ (.inr qyl)]
  simp[show j+(n+2)<S.length by have:=h0.len;omega]
 ·intro k hk;rw[List.getElem?_set_ne xq,h.same k xq,List.getElem?_set_ne xq];exact h0.same k xq
 ·rw[drop_set,zxl _ _ (by rw[List.length_drop,h.len,hlen];omega),k2,Int.sub_mul];omega
 rw[drop_set,zxl _ _ (by rw[List.length_drop,h.len,hlen];omega),k2];omega
theorem DigW.drewN{w' w:World}{g gv:Nat}{L v:List Int}(h:DigW w' w g gv L v)(k:Nat):DigW (w'.drewN k) w g gv L v:=⟨h.1,h.2.1,h.2.2.trans (Only.drewN _ _ _)⟩
set_option maxRecDepth 100000 in
theorem digit_any(g gv j n cu cv:Nat)(L v:List Int)(w:World)(hk:KBlk .u32 w g 77 L)(hkv:KBlk .u32 w gv 77 v)(hne:gv≠g)(hj:j+(n+2)+1≤L.length)(hvl:v.length=n+2)(dL:Dig L)(dv:Dig v)(hn:n≤1000000000)(hcu:n+3≤cu)(hcu':cu≤maxLen)(hcv:n+2≤cv)(hcv':cv≤maxLen)(htop:2147483648≤v[n+1]?.getD 0)(hU:valTo (L.drop j) (n+3)<4294967296*Nt.val v):
  qyc 204 #[.slice (some ⟨g,j,none⟩) (n+3) cu,.slice (some ⟨gv,0,none⟩) (n+2) cv] w fun e w'=>∃q,e=.returned (.int .u32 q)∧DigitF w w' g j (n+2) L v q:=by
 have c1:=hk.cell (i:=j+(n+2)) xq;have c2:=hk.cell (i:=j+(n+1)) xq;have c3:=hk.cell (i:=j+n) xq;have d1:=hkv.cell (i:=n+1) xq;have d2:=hkv.cell (i:=n) xq;have hv1:=dv.at (n+1);have hv2:=dv.at n;have hu0:=dL.at (j+(n+2));have hu1:=dL.at (j+(n+1));have hu2:=dL.at (j+n);obtain⟨v1,ah⟩:∃x,x=v[n+1]?.getD 0:=⟨_,rfl⟩
 obtain⟨v2,al⟩:∃x,x=v[n]?.getD 0:=⟨_,rfl⟩
 obtain⟨u0,ak⟩:∃x,x=L[j+(n+2)]?.getD 0:=⟨_,rfl⟩
 obtain⟨u1,ai⟩:∃x,x=L[j+(n+1)]?.getD 0:=⟨_,rfl⟩
 obtain⟨u2,ag⟩:∃x,x=L[j+n]?.getD 0:=⟨_,rfl⟩
 rw[←ah] at d1 hv1 htop;rw[←al] at d2 hv2;rw[←ak] at c1 hu0;rw[←ai] at c2 hu1;rw[←ag] at c3 hu2;have Ev1:=Lib.hid ah;have Ev2:=Lib.hid al;have Eu0:=Lib.hid ak;have Eu1:=Lib.hid ai;have Eu2:=Lib.hid ag;have HU:=Lib.hid hU;have DL:=Lib.hid dL;have Dv:=Lib.hid dv;have Hk:=Lib.hid hk;have Hkv:=Lib.hid hkv;have Hvl:=Lib.hid hvl;have Hj:=Lib.hid hj;clear ah al ak ai ag hU dL dv hk hkv hvl hj
 go_enter Tryz.func204,Tryz.ntmps204
 go_wp2
 go_quiet (fail)
 rw[or_top hu0.1 hu0.2 hu1.1 hu1.2];obtain⟨top,aa⟩:∃top,top=u0*4294967296+u1:=⟨_,rfl⟩
 have Htop:=Lib.hid aa;have t0:0≤top:=by omega
 have t1:top<18446744073709551616:=by omega
 rw[←aa];clear aa;have Hnq:Hid (KBlk .u32 (w.drewN nq) g 77 L∧KBlk .u32 (w.drewN nq) gv 77 v∧Only g w (w.drewN nq)):=⟨Hk.out,Hkv.out,Only.drewN _ _ _⟩
 have e1:(w.drewN nq).cell? ⟨gv,n+1,none⟩=some (.int .u32 v1):=d1;have e2:(w.drewN nq).cell? ⟨gv,n,none⟩=some (.int .u32 v2):=d2;have f2:(w.drewN nq).cell? ⟨g,j+n,none⟩=some (.int .u32 u2):=c3;generalize w.drewN nq=wa at *;clear d1 d2 c1 c2 c3 Hk Hkv;have aq:(v1==0)=false:=by rw[beq_eq_false_iff_ne];omega
 go_wp2
 go_quiet (fail)
 have hT:Hid (DivFacts j n L v top u2 v1 v2):=div_facts Dv.out DL.out Hvl.out Hj.out Ev1.out Ev2.out Eu0.out Eu1.out Eu2.out Htop.out htop HU.out;obtain⟨T,hTd⟩:∃T,T=valTo (L.drop j) (n+3)/Nt.val v:=⟨_,rfl⟩
 have HTd:=Lib.hid hTd;clear hTd
 have Hst:Hid (Guess T top v1 v2 u2 (top/v1) (top%v1)):=by
  have h:=hT.out;exact Guess.start t0 xq (by rw[HTd.out];exact h.t0) (by rw[HTd.out];exact h.ta) xq xq
 have b0:0≤top/v1:=Int.ediv_nonneg t0 xq;have b1:top/v1≤8589934592:=Int.ediv_le_of_le_mul xq xq;have b2:0≤top%v1:=Int.emod_nonneg _ xq;have b3:top%v1<4294967296:=by have:=Int.emod_lt_of_pos top (b:=v1) xq;omega
 have ae:DigW wa w g gv L v:=Hnq.out;have ac:Hid (DigW (wa.drewN nq) w g gv L v):=ae.drewN nq;clear e1 e2 f2 Hnq ae
 go_upto_block 0 with (fail)
 go_cut [7] (fun s7 wx=>∃q:Int,s7=.int .u64 q∧0≤q∧q<4294967296∧Hid (Nt.Good T top v1 v2 u2 q)∧Hid (DigW wx w g gv L v))
 case first=>
  generalize wa.drewN nq=wb at *
  go_wp2
  go_loopw [7,8] (fun s7 s8 wr=>∃q r:Int,s7=.int .u64 q∧s8=.int .u64 r∧0≤q∧q≤8589934592∧0≤r∧r<4294967296∧Hid (Guess T top v1 v2 u2 q r)∧Hid (DigW wr w g gv L v)) (fun s7 _ _=>(intOf s7).toNat)
  case atStart=>exact⟨_,_,rfl,rfl,b0,b1,b2,b3,Hst,ac⟩
  case round=>
   obtain⟨q,r,rfl,rfl,q0,q1,r0,r1,hg,hw⟩:=hrel;clear b0 b1 b2 b3 Hst ac;have e1:wr.cell? ⟨gv,n+1,none⟩=some (.int .u32 v1):=by rw[Ev1.out];exact hw.out.2.1.cell (by have:=Hvl.out;omega)
   have e2:wr.cell? ⟨gv,n,none⟩=some (.int .u32 v2):=by rw[Ev2.out];exact hw.out.2.1.cell (by have:=Hvl.out;omega)
   have f2:wr.cell? ⟨g,j+n,none⟩=some (.int .u32 u2):=by rw[Eu2.out];exact hw.out.1.cell (by have:=Hj.out;omega)
   by_cases hq:4294967296≤q
   ·have hn':Hid (Guess T top v1 v2 u2 (q-1) (r+v1)):=hg.out.next (by rw[HTd.out];exact hT.out.t0) (by rw[HTd.out];exact hT.out.t1) (by rw[HTd.out];exact hT.out.ta) xq xq (.inl hq);have ab:Hid (∀k,DigW (wr.drewN k) w g gv L v):=fun k=>hw.out.drewN k;have ad:Hid (∀k,(wr.drewN k).cell? ⟨gv,n+1,none⟩=some (.int .u32 v1)):=fun _=>e1;clear hg hw
    go_wp2
    go_quiet (fail)
    have hw3:=Lib.hid (ab.out nq);have e3:=ad.out nq;generalize wr.drewN nq=wq at *;clear ab ad e1 e2 f2
    by_cases hr:4294967296≤r+v1
    ·have hG:Hid (Nt.Good T top v1 v2 u2 (q-1)):=hn'.out.broke (by have:=Htop.out;have:=hT.out;exact hT.out.tb) hr xq xq xq xq
     go_wp2
     go_meet
     exact⟨q-1,rfl,by omega,hG.out.q1,hG,hw3⟩
    go_wp2
    go_roundw
    case rel=>exact⟨q-1,r+v1,rfl,rfl,hn'.out.q0,by omega,by omega,by omega,hn',hw3⟩
    case measure=>simp[intOf];omega
   by_cases ht:r*4294967296+u2<q*v2
   ·have hn':Hid (Guess T top v1 v2 u2 (q-1) (r+v1)):=hg.out.next (by rw[HTd.out];exact hT.out.t0) (by rw[HTd.out];exact hT.out.t1) (by rw[HTd.out];exact hT.out.ta) xq xq (.inr ht);have qp:1≤q:=by have:=hn'.out.q0;omega
    have am:q<4294967296:=by omega
    have or1:=or_top r0 r1 hu2.1 hu2.2;have ao:decide (4294967296≤q)=false:=by simpa using hq
    have mb:=mul_bd32 (x:=q) (y:=v2) ⟨q0,by omega⟩ hv2;have htd:decide (bits BinOp.or IntKind.u64 (r*4294967296) u2<q*v2)=true:=by rw[or1];simpa using ht
    have ab:Hid (∀k,DigW (wr.drewN k) w g gv L v):=fun k=>hw.out.drewN k;have ad:Hid (∀k,(wr.drewN k).cell? ⟨gv,n+1,none⟩=some (.int .u32 v1)):=fun _=>e1;clear hg hw or1
    go_wp2
    go_quiet (fail)
    have hw3:=Lib.hid (ab.out nq);have e3:=ad.out nq;generalize wr.drewN nq=wq at *;clear ab ad e1 e2 f2
    by_cases hr:4294967296≤r+v1
    ·have hG:Hid (Nt.Good T top v1 v2 u2 (q-1)):=hn'.out.broke (by have:=Htop.out;have:=hT.out;exact hT.out.tb) hr xq xq xq xq
     go_wp2
     go_meet
     exact⟨q-1,rfl,by omega,hG.out.q1,hG,hw3⟩
    go_wp2
    go_roundw
    case rel=>exact⟨by omega,by omega⟩
    case measure=>simp[intOf];omega
   have hG:Hid (Nt.Good T top v1 v2 u2 q):=hg.out.good xq xq;have or1:=or_top r0 r1 hu2.1 hu2.2;have am:q<4294967296:=by omega
   have ao:decide (4294967296≤q)=false:=by simpa using hq
   have mb:=mul_bd32 (x:=q) (y:=v2) ⟨q0,by omega⟩ hv2;have htd:decide (bits BinOp.or IntKind.u64 (r*4294967296) u2<q*v2)=false:=by rw[or1];simpa using ht
   have ab:Hid (∀k,DigW (wr.drewN k) w g gv L v):=fun k=>hw.out.drewN k;clear hg hw or1
   go_wp2
   go_quiet (fail)
   have hw3:=Lib.hid (ab.out nq);clear ab
   go_wp2
   go_meet
   exact⟨q,rfl,q0,am,hG,hw3⟩
 case rest=>
  obtain⟨q,rfl,q0,q1,hG,hw⟩:=hcut;clear b0 b1 b2 b3 Hst ac
  go_wp2
  go_loopw [9,10,86] (fun cv bv iv wr=>∃(i:Nat) (cr bo:Int) (S:List Int),i≤n+2∧0≤cr∧cr≤4294967295∧0≤bo∧bo≤1∧cv=.int .u64 cr∧bv=.int .u64 bo∧iv=.int .i64 i∧DigS wr w g gv j n i L v S q cr bo) (fun _ _ iv _=>n+2-(intOf iv).toNat)
  case atStart=>exact⟨0,0,0,L,by omega,by omega,by omega,by omega,by omega,rfl,rfl,rfl,hw.out.1,hw.out.2.1,hw.out.2.2,rfl,DL.out,by simp[zxe],fun _ _=>rfl⟩
  case round=>
   obtain⟨i,cr,bo,S,hi,c0,c1,o0,o1,rfl,rfl,rfl,hs⟩:=hrel;clear hw
   by_cases hin:i<n+2
   ·have hv:=hs.kv.cell (i:=i) (by have:=Hvl.out;omega);have hu:=hs.ku.cell (i:=j+i) (by have:=Hj.out;have:=hs.len;omega);have hf:=hs.ku.frozen (j+i);have hd:=Dv.out.at i;have hx:=hs.dig.at (j+i);have mb:=mul_bd32 (x:=q) (y:=v[i]?.getD 0) ⟨q0,q1⟩ hd;obtain⟨d,hdd⟩:∃d,d=v[i]?.getD 0:=⟨_,rfl⟩
    obtain⟨x,hxx⟩:∃x,x=S[j+i]?.getD 0:=⟨_,rfl⟩
    have Hs:=Lib.hid hs;have Hdd:=Lib.hid hdd;have Hxx:=Lib.hid hxx;rw[←hdd] at hv hd mb;rw[←hxx] at hu hx;have mb0:=mb.1;have mb1:=mb.2;have hne':g≠gv:=fun h=>hne h.symm;have q00:=Hs.out.next (p:=q*d+cr) (t:=x-(q*d+cr)%4294967296-bo) hne Hj.out hin Hdd.out Hxx.out rfl rfl xq xq;have Hn:=Lib.hid q00;have hlo:=sub_low2 (x:=x) (r:=(q*d+cr)%4294967296) (bo:=bo) hx.1 hx.2 xq xq o0 o1;have Hlo:=Lib.hid hlo;clear hs hdd hxx mb q00 hlo
    go_wp2
    go_roundw
    case rel=>
     rw[Hlo.out.1,Hlo.out.2];exact⟨i+1,_,_,_,by omega,by omega,by omega,by split<;>omega,by split<;>omega,rfl,rfl,by go_num,Hn.out⟩
    case measure=>simp[intOf];omega
   obtain rfl:i=n+2:=by omega
   have hu:=hs.ku.cell (i:=j+(n+2)) (by have:=Hj.out;have:=hs.len;omega);have hf:=hs.ku.frozen (j+(n+2));rw[hs.same _ (.inr qyl),←Eu0.out] at hu;have hlo:=sub_low2 (x:=u0) (r:=cr) (bo:=bo) hu0.1 hu0.2 c0 xq o0 o1;have Hs:=Lib.hid hs
   by_cases ht:u0-cr-bo<0
   ·rw[if_pos ht] at hlo;obtain⟨af,aj⟩:=hlo;have Hlo:=Lib.hid af;clear hs af
    go_wp2
    obtain⟨tt,htt⟩:∃tt,tt=u0-cr-bo:=⟨_,rfl⟩
    have Htt:=Lib.hid htt;rw[←htt] at ht;have ap:-4294967296≤tt:=by omega
    have an:Hid (DigA (wr.setCell ⟨g,j+(n+2),none⟩ (.int .u32 (IntKind.u64.wrap (IntKind.u64.wrap (u0-cr)-bo)%4294967296))) w g gv j n 0 (S.set (j+(n+2)) (tt%4294967296)) v (S.set (j+(n+2)) (tt%4294967296)) 0):=by
     rw[Hlo.out,←Htt.out];exact⟨Hs.out.ku.set _ _,Hs.out.kv.far (p:=⟨g,j+(n+2),none⟩) hne _,Hs.out.only.setCell _ _,rfl,Hs.out.dig.set _ xq,by simp[zxe],fun _ _=>rfl⟩
    generalize wr.setCell ⟨g,j+(n+2),none⟩ (.int .u32 (IntKind.u64.wrap (IntKind.u64.wrap (u0-cr)-bo)%4294967296))=ws at *;clear htt aj hu hf Hlo;obtain⟨wo,rfl⟩:∃wo:World,wo=wr:=⟨_,rfl⟩
    go_loopw [9,139] (fun cv iv wr=>∃(i:Nat) (c:Int) (R:List Int),i≤n+2∧0≤c∧c≤1∧cv=.int .u64 c∧iv=.int .i64 i∧DigA wr w g gv j n i (S.set (j+(n+2)) (tt%4294967296)) v R c) (fun _ iv _=>n+2-(intOf iv).toNat)
    case atStart=>exact⟨0,0,_,by omega,by omega,by omega,rfl,rfl,an.out⟩
    case round=>
     obtain⟨i,c,R,hi,c0,c1,rfl,rfl,hr⟩:=hrel;clear an;have hM:(S.set (j+(n+2)) (tt%4294967296)).length=L.length:=by rw[List.length_set];exact Hs.out.len
     by_cases hin:i<n+2
     ·have hv:=hr.kv.cell (i:=i) (by have:=Hvl.out;omega);have hu:=hr.ku.cell (i:=j+i) (by have:=Hj.out;have:=hr.len;omega);have hf:=hr.ku.frozen (j+i);have hd:=Dv.out.at i;have hx:=hr.dig.at (j+i);obtain⟨d,hdd⟩:∃d,d=v[i]?.getD 0:=⟨_,rfl⟩
      obtain⟨x,hxx⟩:∃x,x=R[j+i]?.getD 0:=⟨_,rfl⟩
      have Hn:=Lib.hid (hr.next (t:=x+d+c) hne (by have:=Hj.out;omega) hin hdd hxx rfl);rw[←hdd] at hv hd;rw[←hxx] at hu hx;clear hr hdd hxx hM
      go_wp2
      go_roundw
      case rel=>exact⟨i+1,_,_,by omega,by omega,by omega,rfl,by go_num,Hn.out⟩
      case measure=>simp[intOf];omega
     obtain rfl:i=n+2:=by omega
     obtain⟨z1,z2,z3,z4⟩:=DigA.done Hs.out hr Hj.out Hvl.out Dv.out DL.out Eu0.out Htt.out xq ap q0 q1 hT.out HTd.out hG.out xq hv2.1;have hu:=hr.ku.cell (i:=j+(n+2)) (by have:=Hj.out;have:=hr.len;omega);have hf:=hr.ku.frozen (j+(n+2));rw[z1] at hu;have HF:=Lib.hid z4;have Hz:=Lib.hid z3;obtain⟨y,hy⟩:∃y,y=tt%4294967296:=⟨_,rfl⟩
     rw[←hy] at hu;have Hy:=Lib.hid hy;have y0:0≤y:=by omega
     have y1:y<4294967296:=by omega
     clear z1 z3 z4 hr hM hy
     go_wp2
     go_ret
     rw[Hy.out,Hz.out];exact⟨q-1,rfl,HF.out⟩
   rw[if_neg ht] at hlo;obtain⟨af,aj⟩:=hlo;have Hlo:=Lib.hid af;have HF:=Lib.hid (hs.done Hj.out Hvl.out Dv.out DL.out Eu0.out rfl xq xq q0 q1 hT.out HTd.out hG.out xq hv2.1);have e:(u0-cr-bo)%4294967296=u0-cr-bo:=by omega
   have He:=Lib.hid e;have e2:((u0-cr-bo)/9223372036854775808==0)=true:=by rw[beq_iff_eq];omega
   clear hs af aj e
   go_wp2
   go_ret
   exact⟨q,rfl,HF.out⟩
namespace Nt
theorem small_step{Q x:List Int}{i:Nat}{r y t:Int}(hy:0<y)(hi:i<Q.length)(hx:i<x.length)(h:val (x.drop (i+1))=val (Q.drop (i+1))*y+r)(ht:t=r*4294967296+x[i]?.getD 0):
  val (x.drop i)=val ((Q.set i (t/y)).drop i)*y+t%y:=by
 rw[val_drop_set _ hi,val_drop hx,h];have e:=Int.mul_ediv_add_emod t y;generalize t/y=q at *;generalize t%y=s at *
 grind
theorem small_bd{r y t d:Int}(hy:0<y)(r0:0≤r)(r1:r<y)(d0:0≤d)(d1:d<4294967296)(ht:t=r*4294967296+d):0≤t/y∧t/y<4294967296∧0≤t%y∧t%y<y:=by
 refine⟨Int.ediv_nonneg xq xq,?_,Int.emod_nonneg _ xq,Int.emod_lt_of_pos _ hy⟩
 apply Int.ediv_lt_of_lt_mul hy
 have:(r+1)*4294967296≤y*4294967296:=Int.mul_le_mul_of_nonneg_right xq xq
 omega
theorem div_of{a b q r:Int}(hb:0<b)(h:a=q*b+r)(r0:0≤r)(r1:r<b):a/b=q∧a%b=r:=by
 have e:a=r+b*q:=by rw[h,Int.mul_comm];omega
 constructor
 ·rw[e,Int.add_mul_ediv_left _ _ xq,Int.ediv_eq_zero_of_lt r0 r1];omega
 rw[e,Int.add_mul_emod_self_left,Int.emod_eq_of_lt r0 r1]
end Nt
theorem NatF.below{w0 w w':World}{A:Option Addr}{n c v:Nat}(h:NatF w0 w A n c v)(hb:Below w.heap.size w w'):NatF w0 w' A n c v:=⟨h.1,h.2.1.below hb,fun hp=>by obtain⟨a,e,k,t⟩:=h.2.2 hp;exact⟨a,e,k,t.below hb⟩⟩
def DivF(w0 w:World)(e:Ending)(a b:Int):Prop:=∃A1 n1 c1 A2 n2 c2,e=.returned (.tuple #[.slice A1 n1 c1,.slice A2 n2 c2])∧NatF w0 w A1 n1 c1 (a/b).toNat∧NatF w0 w A2 n2 c2 (a%b).toNat∧Below w0.heap.size w0 w
theorem divide_lt(A B:Option Addr)(n c m d:Nat)(a b:List Int)(w:World)(ha:SlR .u32 w A n c a)(hb:SlR .u32 w B m d b)(da:Dig a)(db:Dig b)(na:Norm a)(hn:n≤1000000000)(hlt:Nt.val a<Nt.val b):
  qyc 194 #[.slice A n c,.slice B m d] w fun e w'=>DivF w w' e (Nt.val a) (Nt.val b):=by
 have hcmp:cmpS (Nt.val a) (Nt.val b)=-1:=by unfold cmpS;rw[if_pos hlt]
 have Hcmp:=Lib.hid hcmp;have Hlt:=Lib.hid hlt;have Hna:=Lib.hid (norm_eq da na);have Hn0:=Lib.hid (zxc da);clear hcmp hlt na
 go_enter Tryz.func194,Tryz.ntmps194
 go_wp2_with fail
 refine(Compare_any _ _ _ _ _ _ _ _ _ ha hb da db).mono ?_;rintro e w1 ⟨rfl,q,rfl⟩;rw[Hcmp.out]
 go_wp2_with fail
 refine(CloneU_any _ _ _ _ _ (ha.drewN q) hn).mono ?_;rintro e w1 ⟨A',c',rfl,hs,hf,hbl⟩;have Hs:=Lib.hid hs;have Hf:=Lib.hid hf;have Hb:=Lib.hid hbl;clear hs hf hbl
 go_wp2
 go_ret2
 have e1:Nt.val a/Nt.val b=0:=Int.ediv_eq_zero_of_lt Hn0.out Hlt.out;have e2:Nt.val a%Nt.val b=Nt.val a:=Int.emod_eq_of_lt Hn0.out Hlt.out;refine⟨none,0,0,A',n,c',rfl,?_,?_,⟨Hb.out.os,Hb.out.tape,Hb.out.output,Hb.out.size,Hb.out.block⟩⟩
 ·rw[e1];exact⟨by simp[zxa],by simp[zxa];exact SlR.nil _ _ _ (Nat.zero_le _),fun h=>absurd h xq⟩
 rw[e2];exact⟨by rw[←Hna.out];exact ha.1.symm,by rw[←Hna.out];exact Hs.out,Hf.out⟩
set_option maxRecDepth 100000 in
theorem divide_one(A B:Option Addr)(n c d:Nat)(a:List Int)(y:Int)(w:World)(ha:SlR .u32 w A n c a)(hb:SlR .u32 w B 1 d [y])(da:Dig a)(db:0≤y∧y<4294967296)(hy:0<y)(hn:n≤1000000000)(hge:y≤Nt.val a):
  qyc 194 #[.slice A n c,.slice B 1 d] w fun e w'=>DivF w w' e (Nt.val a) (Nt.val [y]):=by
 have hcmp:0≤cmpS (Nt.val a) (Nt.val [y]):=by
  have ah:Nt.val [y]=y:=by simp[Nt.val]
  rw[ah];unfold cmpS;rw[if_neg xq];split<;>omega
 have hn1:1≤n:=by
  rcases Nat.eq_zero_or_pos n with h|h
  ·have:=ha.1;have:a=[]:=List.eq_nil_of_length_eq_zero xq;rw[this] at hge;simp[Nt.val] at hge;omega
  exact h
 obtain⟨s,hs⟩:∃s,s=cmpS (Nt.val a) (Nt.val [y]):=⟨_,rfl⟩
 have Hs:=Lib.hid hs;have hlen:Hid (a.length=n):=ha.1;have Hda:=Lib.hid da;have hyb:(y==0)=false:=by rw[beq_eq_false_iff_ne];omega
 rw[←hs] at hcmp;clear hs hge
 go_enter Tryz.func194,Tryz.ntmps194
 go_wp2_with fail
 refine(Compare_any _ _ _ _ _ _ _ _ _ ha hb da (Dig.cons db Dig.nil)).mono ?_;rintro e w1 ⟨rfl,q,rfl⟩;rw[←Hs.out];clear Hs
 go_wp2_with (at_make;refine zxg _ rfl (.tmp 27) (.tmp 27) _ rfl 77 .u32 4 Tryz.underlying31 zxj _ _ _ _ n rfl rfl ?L ?C ?b2 ?b3 ?_)
 case L=>show _=_;omega
 case C=>show _=_;omega
 case b2=>omega
 case b3=>unfold maxLen;omega
 intro w2 aa hb2' ac;have ab:Below w.heap.size w w2:=⟨hb2'.os,hb2'.tape,hb2'.output,hb2'.size,hb2'.block⟩
 obtain⟨g,hg⟩:∃g,g=w.heap.size:=⟨_,rfl⟩
 have hgw:w.heap.size≤g:=by omega
 rw[←hg] at aa ⊢;have hab:SlR .u32 w A n c a:=ha;have hbb:SlR .u32 w B 1 d [y]:=hb;clear ha hb ac hb2' hg da
 go_wp2
 go_loopw [8,9] (fun rv iv wr=>∃(i:Nat) (r:Int) (Q:List Int),i≤n∧0≤r∧r<y∧rv=.int .u64 r∧iv=.int .i64 ((i:Int)-1)∧KBlk .u32 wr g 77 Q∧Hid (Q.length=n)∧Hid (Dig Q)∧Hid (Nt.val (a.drop i)=Nt.val (Q.drop i)*y+r)∧Below w.heap.size w wr) (fun _ iv _=>(intOf iv+1).toNat)
 case atStart=>exact⟨n,0,_,by omega,by omega,by omega,rfl,rfl,aa,by simp[Hid],Dig.repl _,by have:=hlen.out;show _=_;rw[zwm xq,zwm (by simp)];simp,ab⟩
 case round=>
  obtain⟨i,r,Q,hin,r0,r1,rfl,rfl,hk,hQ,dQ,hv,hbr⟩:=hrel;clear aa ab
  rcases i with _|i
  ·have hv0:=hv.out
   simp only[List.drop_zero] at hv0
   have hdm:=div_of hy hv0 r0 r1;have hsl:=hk.slr_all (n:=n) (c:=n) hQ.out xq yv;have hfr:=zwb (w0:=w) hk hQ.out yv dQ.out hgw;have ev:Nt.val Q=Nt.val a/Nt.val [y]:=by simp only[Nt.val,Int.mul_zero,Int.add_zero];exact hdm.1.symm
   have er:r=Nt.val a%Nt.val [y]:=by simp only[Nt.val,Int.mul_zero,Int.add_zero];exact hdm.2.symm
   rw[ev] at hfr;have HF:=Lib.hid hfr;have Her:=Lib.hid er;have r2:r<4294967296:=by omega
   clear hv hv0 hdm hfr ev er
   go_wp2_with fail
   refine(zwj _ _ _ _ _ hsl).mono ?_;rintro e w1 ⟨rfl,rfl⟩
   go_wp2_with fail
   refine(zwj _ _ _ _ _ ((KBlk.new wr 77 [r]).slr_all (n:=1) (c:=1) rfl qyl xw)).mono ?_;rintro e w1 ⟨rfl,rfl⟩;have hf2:=zwb (w0:=w) (m:=1) (KBlk.new wr 77 [r]) rfl xw (Dig.cons ⟨r0,r2⟩ Dig.nil) (by have:=hbr.size;omega);have hvr:Nt.val [r]=Nt.val a%Nt.val [y]:=by rw[←Her.out];simp[Nt.val]
   rw[hvr] at hf2;have HF2:=Lib.hid hf2;have HB:Hid (Below w.heap.size w (wr.alloc (.cells #[.int .u32 r] 77))):=hbr.alloc hbr.size _;have ae:Hid (NatF w (wr.alloc (.cells #[.int .u32 r] 77)) (some ⟨g,0,none⟩) (strip Q).length n (Nt.val a/Nt.val [y]).toNat):=HF.out.below ((Below.refl _ _).alloc qyl _);clear hf2 hvr Her
   go_wp2
   go_ret2
   exact⟨_,_,_,_,_,_,rfl,ae.out,HF2.out,HB.out⟩
  obtain⟨b1,o1,rfl,hlt,af⟩:=(hab.below hbr).pos (i:=i) xq;obtain⟨b2,o2,rfl,ai,ad⟩:=(hbb.below hbr).pos (i:=0) xq;have hlt3:=(hbb.pos (i:=0) xq)
  obtain⟨_,_,he',hlt3,_⟩:=hlt3;have ag:b2≠g:=by cases he';omega
  clear he' hlt3
  simp only[List.getElem?_cons_zero,Option.getD_some,Nat.add_zero] at ad
  have hcq:=hk.cell (i:=i) (by have:=hQ.out;omega);have hfq:=hk.frozen i;have hx:=Hda.out.at i;obtain⟨x,hxx⟩:∃x,x=a[i]?.getD 0:=⟨_,rfl⟩
  rw[←hxx] at af hx;have Hx:=Lib.hid hxx;have hbd:=small_bd hy r0 r1 hx.1 hx.2 rfl;have Hst:=Lib.hid (small_step (t:=r*4294967296+x) hy (by have:=hQ.out;omega) (by have:=hlen.out;omega) hv.out (by rw[hxx]));have or1:=or_top r0 xq hx.1 hx.2;have hbd0:=hbd.1;have hbd1:=hbd.2.1;have hin':(i:Int)<n:=by omega
  clear hv hxx
  go_wp2
  go_roundw
  case rel=>exact⟨i,_,_,by omega,hbd.2.2.1,hbd.2.2.2,rfl,by go_num,hk.set i _,by have:=hQ.out;show _=_;simpa using this,dQ.out.set i ⟨hbd0,hbd1⟩,Hst.out,hbr.setCell (p:=⟨g,i,none⟩) hgw _⟩
  case measure=>simp[intOf]
namespace Nt
theorem norm_last{l:List Int}{k:Nat}(hn:Norm l)(hl:l.length=k+1):l[k]?.getD 0≠0:=by
 intro h;have e:=take_snoc l k xq;rw[List.take_of_length_le xq,h] at e
 unfold Norm at hn
 have h1:=zyh (l.take k);rw[e,strip_snoc_zero] at hn;have:=congrArg List.length hn
 simp at this
 have h2:(strip (l.take k)).length≤k:=by simp at h1;omega
 omega
theorem liftv{b v:List Int}{N:Nat}{z lo y:Int}(db:Dig b)(hb:b.length=N+2)(dv:Dig v)(hv:v.length=N+2)(hlo:0≤lo)(h:val v+lo*pw (N+2)=val b*z)(hz:0<z)(hy:y=b[N+1]?.getD 0)(h1:2147483648≤y*z)(h2:(y+1)*z≤4294967296):val v=val b*z∧2147483648≤v[N+1]?.getD 0:=by
 have hp:=pw_pos (N+1);have eb:val b=valTo b (N+1)+pw (N+1)*y:=by rw[←zyg b (n:=N+2) xq,zyf,←hy]
 have ev:val v=valTo v (N+1)+pw (N+1)*v[N+1]?.getD 0:=by rw[←zyg v (n:=N+2) xq,zyf]
 have b0:=zyy db (N+1);have b1:=zxr db (N+1);have v1:=zxr dv (N+1);have v0:=zxc dv;have ep:pw (N+2)=4294967296*pw (N+1):=rfl
 have hlt:val b*z<pw (N+2):=by
  have k1:val b*z<(pw (N+1)*(y+1))*z:=Int.mul_lt_mul_of_pos_right (by rw[eb,Int.mul_add];omega) hz;have k2:(pw (N+1)*(y+1))*z≤pw (N+1)*4294967296:=by rw[Int.mul_assoc];exact Int.mul_le_mul_of_nonneg_left h2 xq
  omega
 have hl0:lo=0:=by
  rcases(show lo=0∨1≤lo by omega) with h'|h'
  ·exact h'
  have:1*pw (N+2)≤lo*pw (N+2):=Int.mul_le_mul_of_nonneg_right h' xq
  omega
 rw[hl0] at h;have e:val v=val b*z:=by omega
 refine⟨e,?_⟩
 have k3:pw (N+1)*(y*z)≤val v:=by
  rw[e,eb,Int.add_mul,Int.mul_assoc];have:0≤valTo b (N+1)*z:=Int.mul_nonneg b0 xq
  omega
 have k4:pw (N+1)*2147483648≤pw (N+1)*(y*z):=Int.mul_le_mul_of_nonneg_left h1 xq;have k5:pw (N+1)*2147483648<pw (N+1)*(v[N+1]?.getD 0+1):=by rw[Int.mul_add _ _ 1];omega
 have:=Int.lt_of_mul_lt_mul_left k5 xq
 omega
theorem liftu{a u v:List Int}{n N M:Nat}{z lo:Int}(da:Dig a)(ha:a.length=n)(du:Dig u)(hu:val u=val a*z)(hM:M+(N+1)=n)(hz:0<z)(hz2:z≤2147483648)(dv:Dig v)(hv:v.length=N+2)(hv1:2147483648≤v[N+1]?.getD 0):val (u.drop M)<val v:=by
 have a1:=val_lt da;rw[ha,←hM,pw_add] at a1;have e:=zxv u M;have u0:=zyy du M;have hp:=pw_pos M;have hp1:=pw_pos (N+1);have ev:val v=valTo v (N+1)+pw (N+1)*v[N+1]?.getD 0:=by rw[←zyg v (n:=N+2) xq,zyf]
 have v0:=zyy dv (N+1);have k1:val a*z<pw M*pw (N+1)*z:=Int.mul_lt_mul_of_pos_right a1 hz;have k2:pw M*val (u.drop M)<pw M*(pw (N+1)*z):=by rw[←Int.mul_assoc];omega
 have k3:=Int.lt_of_mul_lt_mul_left k2 xq;have k4:pw (N+1)*z≤pw (N+1)*v[N+1]?.getD 0:=Int.mul_le_mul_of_nonneg_left xq xq
 omega
structure DivL(i N:Nat)(A V:Int)(U Q:List Int):Prop where
 dU:Dig U
 dQ:Dig Q
 sum:A=val (Q.drop i)*pw i*V+val U
 low:val (U.drop i)<V
theorem DivL.start{a u v Q:List Int}{i N:Nat}{A:Int}(du:Dig u)(dQ:Dig Q)(hQ:Q.length≤i)(hA:A=val u)(hl:val (u.drop i)<val v):DivL i N A (val v) u Q:=
 ⟨du,dQ,by rw[zwm hQ,hA];simp,hl⟩
theorem DivL.pre{j N:Nat}{A:Int}{U Q v:List Int}(h:DivL (j+1) N A (val v) U Q)(hj:j<U.length)(hv:v.length=N+2)(dv:Dig v):valTo (U.drop j) (N+3)<4294967296*val v:=by
 have h1:=val_drop (l:=U) hj;have h2:=h.low;have h3:=h.dU.at j;have h4:=val_lt dv;have e:=zxv (U.drop j) (N+3);have h5:=zxc ((h.dU.drop j).drop (N+3));have hp:=pw_pos (N+3);have:0≤pw (N+3)*val ((U.drop j).drop (N+3)):=Int.mul_nonneg xq h5
 omega
theorem drop_same{U U':List Int}{j:Nat}(hl:U'.length=U.length)(h:∀k,j≤k→U'[k]? = U[k]?):U'.drop j=U.drop j:=by
 apply List.ext_getElem?
 intro k;rw[List.getElem?_drop,List.getElem?_drop];exact h _ xq
theorem take_same{U U':List Int}{j:Nat}(h:∀k,k<j→U'[k]? = U[k]?):U'.take j=U.take j:=by
 apply List.ext_getElem?
 intro k
 rcases Nat.lt_or_ge k j with hk|hk
 ·rw[List.getElem?_take_of_lt hk,List.getElem?_take_of_lt hk];exact h k hk
 rw[List.getElem?_take_eq_none hk,List.getElem?_take_eq_none hk]
theorem DivL.next{j N:Nat}{A q:Int}{U U' Q v:List Int}(h:DivL (j+1) N A (val v) U Q)(hj:j<U.length)(hjQ:j<Q.length)(hv:v.length=N+2)(dv:Dig v)(hl:U'.length=U.length)(dU':Dig U')(hs:∀k,k<j∨j+(N+2)+1≤k→U'[k]? = U[k]?)(q0:0≤q)(q1:q<4294967296)(he:valTo (U.drop j) (N+3)=q*val v+valTo (U'.drop j) (N+3))(hlt:valTo (U'.drop j) (N+3)<val v):
  DivL j N A (val v) U' (Q.set j q):=by
 have e1:=zxv (U.drop j) (N+3);have e2:=zxv (U'.drop j) (N+3);rw[List.drop_drop] at e1 e2;have e3:U'.drop (j+(N+3))=U.drop (j+(N+3)):=drop_same hl (fun k hk=>hs k xq);rw[e3] at e2
 have e4:val (U.drop (j+(N+3)))=0:=by
  have k1:val (U.drop (j+1))<pw (N+2):=by have:=h.low;have:=val_lt dv;rw[hv] at this;omega
  have k2:=(val_low (h.dU.drop (j+1)) k1).1;rw[List.drop_drop,show j+1+(N+2)=j+(N+3) by omega] at k2;exact k2
 rw[e4] at e1 e2;have e5:=zxv U j;have e6:=zxv U' j;have e7:valTo U' j=valTo U j:=by unfold valTo;rw[take_same (fun k hk=>hs k (.inl hk))]
 refine⟨dU',h.dQ.set _ ⟨q0,q1⟩,?_,by omega⟩;rw[val_drop_set _ hjQ,h.sum,e5,e6,e7,e1,e2,he,pw]
 grind
theorem div_end{a b z Q U:Int}(hz:0<z)(h:a*z=Q*(b*z)+U)(u0:0≤U)(u1:U<b*z):a/b=Q∧a%b=U/z:=by
 have hb:0<b:=by
  rcases Int.lt_or_le 0 b with h'|h'
  ·exact h'
  have:=Int.mul_nonpos_of_nonpos_of_nonneg h' (Int.le_of_lt hz);omega
 have e:U=(a-Q*b)*z:=by grind
 have e2:U/z=a-Q*b:=by rw[e];exact Int.mul_ediv_cancel _ xq
 have h0:0≤a-Q*b:=Int.nonneg_of_mul_nonneg_left xq hz;have h1:a-Q*b<b:=by rw[e] at u1;exact Int.lt_of_mul_lt_mul_right u1 xq
 rw[e2];exact div_of hb xq h0 h1
end Nt
structure DivW(wr w:World)(gu gv gq i N n M:Nat)(A:Int)(v U Q:List Int):Prop where
 ku:KBlk .u32 wr gu 77 U
 kv:KBlk .u32 wr gv 77 v
 kq:KBlk .u32 wr gq 77 Q
 lu:U.length=n+1
 lq:Q.length=M
 d:DivL i N A (Nt.val v) U Q
 bel:Below w.heap.size w wr
theorem DivW.fin{wr w w6:World}{gu gv gq N n M z gl:Nat}{a b v U Q SL:List Int}(h:DivW wr w gu gv gq 0 N n M (Nt.val a*2^z) v U Q)(hv:v.length=N+2)(dv:Dig v)(ev:Nt.val v=Nt.val b*2^z)(hgw:w.heap.size≤gq)(hM:M≤1000000000)(hn:n≤1000000000)(hN:N+2≤n)(hb:Below wr.heap.size wr w6)(l1:wr.heap.size≤gl)(l2:KBlk .u32 w6 gl 77 SL)(l3:SL.length=N+2)(l4:Dig SL)(l5:Nt.val SL=Nt.val (U.take (N+2))/2^z):
  DivF w w6 (.returned (.tuple #[.slice (some ⟨gq,0,none⟩) (strip Q).length M,.slice (some ⟨gl,0,none⟩) (strip SL).length (N+2)])) (Nt.val a) (Nt.val b):=by
 have hlow:=h.d.low;have hsum:=h.d.sum
 simp only[List.drop_zero,pw,Int.mul_one] at hlow hsum
 have hU0:=zxc h.d.dU;have e1:Nt.val (U.take (N+2))=Nt.val U:=(val_low h.d.dU (n:=N+2) (by have:=val_lt dv;rw[hv] at this;omega)).2;have hb2:=h.bel.size;obtain⟨q1,q2⟩:=div_end (a:=Nt.val a) (b:=Nt.val b) (Q:=Nt.val Q) (U:=Nt.val U) (p2_pos z) (by rw[hsum,ev]) hU0 xq;have f1:=zwb (w0:=w) (h.kq.below hb h.kq.lt) h.lq yv h.d.dQ hgw;have f2:=zwb (w0:=w) l2 l3 yv l4 xq;rw[l5,e1,←q2] at f2;rw[←q1] at f1;exact⟨_,_,_,_,_,_,rfl,f1,f2,h.bel.trans (hb.mono hb2)⟩
set_option maxRecDepth 100000 in
theorem divide_long(A B:Option Addr)(n c N d:Nat)(a b:List Int)(w:World)(ha:SlR .u32 w A n c a)(hb:SlR .u32 w B (N+2) d b)(da:Dig a)(db:Dig b)(na:Norm a)(nb:Norm b)(hn:n≤1000000000)(hge:Nt.val b≤Nt.val a):
  qyc 194 #[.slice A n c,.slice B (N+2) d] w fun e w'=>DivF w w' e (Nt.val a) (Nt.val b):=by
 have hcmp:0≤cmpS (Nt.val a) (Nt.val b):=by unfold cmpS;rw[if_neg xq];split<;>omega
 have ap:N+2≤n:=by
  rcases Nat.lt_or_ge n (N+2) with h|h
  ·have:=len_lt da db nb (by rw[ha.1,hb.1];exact h)
   omega
  exact h
 obtain⟨M,hM⟩:∃M,n=M+(N+1):=⟨n-(N+1),by omega⟩
 have hla:=Lib.hid ha.1;have hlb:=Lib.hid hb.1;have hyt:=norm_last (k:=N+1) nb hb.1;have hyd:=db.at (N+1);obtain⟨y,hyy⟩:∃y,y=b[N+1]?.getD 0:=⟨_,rfl⟩
 have hby:=hb.pos (i:=N+1) xq;rw[←hyy] at hyt hyd hby;have Hyy:=Lib.hid hyy;obtain⟨z,ai,ad,an,al⟩:=lz_spec (x:=y.toNat) xq xq;have Hz1:=Lib.hid ai
 have ag:Hid (2147483648≤y*2^z∧(y+1)*2^z≤4294967296):=by
  have e:((y.toNat*2^z:Nat):Int)=y*2^z:=by rw[Int.natCast_mul,Int.natCast_pow];congr 1;omega
  have hs:=p2_split ad;have p0:=p2_pos z;refine⟨by omega,?_⟩;have h4:y*2^z<2^(32-z)*2^z:=by rw[Int.mul_comm (2^(32-z)),hs];omega
  have h5:=Int.lt_of_mul_lt_mul_right h4 xq;have h6:(y+1)*2^z≤2^(32-z)*2^z:=Int.mul_le_mul_of_nonneg_right xq xq;rw[Int.mul_comm (2^(32-z)),hs] at h6;exact h6
 obtain⟨b1,o1,rfl,am,ak⟩:=hby;obtain⟨s,hs⟩:∃s,s=cmpS (Nt.val a) (Nt.val b):=⟨_,rfl⟩
 have Hs:=Lib.hid hs;have Hna:=Lib.hid na;have Hnb:=Lib.hid nb;have Hda:=Lib.hid da;have Hdb:=Lib.hid db;have HM:=Lib.hid hM;have hMn:M+(N+1)≤n∧n≤M+(N+1):=by omega
 rw[←hs] at hcmp;clear hs hge na nb ai an al hyy hM
 go_enter Tryz.func194,Tryz.ntmps194
 go_wp2_with fail
 refine(Compare_any _ _ _ _ _ _ _ _ _ ha hb da db).mono ?_;rintro e w1 ⟨rfl,q,rfl⟩;rw[←Hs.out];clear Hs;have hb0:((N:Int)+2==1)=false:=by rw[beq_eq_false_iff_ne];omega
 go_wp2_with (at_make;refine zxg _ rfl (.tmp 27) (.tmp 27) _ rfl 77 .u32 4 Tryz.underlying31 zxj _ _ _ _ M rfl rfl ?L ?C ?b2 ?b3 ?_)
 case L=>show _=_;omega
 case C=>show _=_;omega
 case b2=>omega
 case b3=>unfold maxLen;omega
 intro w2 af hb2' hz2';have aa:Below w.heap.size w w2:=⟨hb2'.os,hb2'.tape,hb2'.output,hb2'.size,hb2'.block⟩
 have ao:w2.cell? ⟨b1,o1+(N+1),none⟩=some (.int .u32 y):=(aa.cell (p:=⟨b1,o1+(N+1),none⟩) am).trans ak;obtain⟨gq,hg⟩:∃g,g=w.heap.size:=⟨_,rfl⟩
 have hgw:w.heap.size≤gq:=by omega
 have hgq:gq<w2.heap.size:=by omega
 have ha2:=ha.below aa;have hb2s:=hb.below aa;rw[←hg] at af ⊢;clear hz2' hg hb2' ak
 go_wp2_with fail
 refine(LeadingZeros32_any y _ hyd.1 hyd.2).mono ?_;rintro e w1 ⟨rfl,rfl⟩;rw[Hz1.out];have hlz:(0:Int)≤(z:Int)∧(z:Int)<32:=by omega
 go_wp2_with fail
 refine(lift_any _ _ _ z (n+1) _ _ ha2 da hn ad (.inr rfl)).mono ?_;rintro e w3 ⟨gu,rfl,ah,ac⟩;have ab:Below w.heap.size w w3:=aa.trans (ac.mono aa.size);have hL1':=Lib.hid ah;clear ah
 go_wp2_with fail
 refine(lift_any _ _ _ z (N+2) _ _ (hb2s.below ac) db xq ad (.inl rfl)).mono ?_;rintro e w4 ⟨gv,rfl,aj,ae⟩
 have Hst:Hid (∃U v,DivW w4 w gu gv gq M N n M (Nt.val a*2^z) v U (List.replicate M 0)∧Dig v∧v.length=N+2∧Nt.val v=Nt.val b*2^z∧2147483648≤v[N+1]?.getD 0∧gu≠gv∧gq≠gu∧gq≠gv∧w.heap.size≤gu):=by
  obtain⟨U,lo,p1,p2,p3,p4,p5,p6,p7⟩:=hL1'.out;obtain⟨v,lo2,q1,q2,q3,q4,q5,q6,q7⟩:=aj;have hlt:=p2.lt;have hp0:=p2_pos z;obtain⟨l1,l2⟩:=liftv Hdb.out hlb.out q4 q3 q5 q7 hp0 Hyy.out ag.out.1 ag.out.2;rw[p6 rfl] at p7;have hU:Nt.val U=Nt.val a*2^z:=by omega
  have l3:=liftu (z:=2^z) (N:=N) (M:=M) (lo:=0) Hda.out hla.out p4 hU (by have:=HM.out;omega) hp0 (p2_le ad) q4 q3 l2;refine⟨U,v,⟨p2.below ae hlt,q2,(af.below ac hgq).below ae (by have:=ac.size;omega),p3,by simp,DivL.start (a:=a) p4 (Dig.repl _) (by simp) hU.symm l3,ab.trans (ae.mono ab.size)⟩,q4,q3,l1,l2,by omega,by omega,by have:=ac.size;omega,by have:=aa.size;omega⟩
 clear af ha2 hb2s aa ao ac ab hL1' ae aj;obtain⟨U0,v,hW,dv,lv,ev,tv,n1,n2,n3,n4⟩:=Hst.out;have HW:=Lib.hid hW;have Hdv:=Lib.hid dv;have Hlv:=Lib.hid lv;have Hev:=Lib.hid ev;have Htv:=Lib.hid tv;clear Hst hW dv lv ev tv ha hb da db Hz1 ag Hyy
 go_wp2
 go_loopw [14] (fun iv wr=>∃(i:Nat) (U Q:List Int),i≤M∧iv=.int .i64 ((i:Int)-1)∧DivW wr w gu gv gq i N n M (Nt.val a*2^z) v U Q) (fun iv _=>(intOf iv+1).toNat)
 case atStart=>exact⟨M,_,_,by omega,by congr 1;omega,HW.out⟩
 case round=>
  obtain⟨i,U,Q,hi,rfl,hr⟩:=hrel;clear HW
  rcases i with _|j
  ·have Hr:=Lib.hid hr;clear hr
   go_wp2
   have hsq:SlR .u32 wr (some ⟨gq,0,none⟩) M M Q:=Hr.out.kq.slr_all Hr.out.lq qyl yv;have hsu:SlR .u32 wr (some ⟨gu,0,none⟩) (N+2) (n+1) (U.take (N+2)):=Hr.out.ku.slr (by have:=Hr.out.lu;omega) xq yv;have Hdu:=Lib.hid (Hr.out.d.dU.take (N+2));have hN1:(N:Int)+2≤(n:Int)+1:=by omega
   go_region_with (first
    | (go_at_call_of 169 (Value.slice (some ⟨gq,0,none⟩) M M);refine(zwj (some ⟨gq,0,none⟩) M M Q _ ?_).mono ?_;(first|exact hsq|exact hsq.below hbl);rintro e w' ⟨rfl,rfl⟩)
    | (go_at_call 172;refine(lower_any _ _ _ z _ _ ?_ Hdu.out xq ad).mono ?_;exact hsu;rintro e w6 ⟨gl,rfl,⟨SL,l1,l2,l3,l4,l5⟩,hbl⟩)
    | (go_at_call 169;refine(zwj _ _ _ SL _ ?_).mono ?_;exact l2.slr_all l3 qyl yv;rintro e w' ⟨rfl,rfl⟩))
   all_goals
    have HF:=Lib.hid (Hr.out.fin (w6:=w6) (b:=b) Hlv.out Hdv.out Hev.out hgw xq hn ap ⟨hbl.os,hbl.tape,hbl.output,hbl.size,hbl.block⟩ l1 l2 l3 l4 l5);clear l1 l2 l3 l4 l5 hbl
    go_wp2
    go_ret2
    exact HF.out
  have hU:=Lib.hid (hr.d.pre (by have:=hr.lu;omega) Hlv.out Hdv.out);have Hr:=Lib.hid hr;have hfq:=hr.kq.frozen j;have hcq:=hr.kq.cell (i:=j) (by have:=hr.lq;omega);have hjn:(j:Int)+(N+2)+1≤(n:Int)+1:=by omega
  clear hr
  go_wp2_with fail
  rw[show j+(N+2)+1-j=N+3 by omega];refine(digit_any gu gv j N (n+1-j) (N+2) U v wr Hr.out.ku Hr.out.kv (fun h=>n1 h.symm) (by have:=Hr.out.lu;omega) Hlv.out Hr.out.d.dU Hdv.out xq xq yv qyl yv Htv.out hU.out).mono ?_;rintro e w5 ⟨qd,rfl,hD⟩;have HD:=Lib.hid hD
  have Hn:Hid (∃U',DivW (w5.setCell ⟨gq,j,none⟩ (.int .u32 qd)) w gu gv gq j N n M (Nt.val a*2^z) v U' (Q.set j qd)):=by
   obtain⟨U',d1,d2,d3,d4,d5,d6,d7,d8,d9⟩:=hD;have hq:=Hr.out.kq.only d9 n2;exact⟨U',d1.far (p:=⟨gq,j,none⟩) (fun h=>n2 h.symm) _,(Hr.out.kv.only d9 (fun h=>n1 h.symm)).far (p:=⟨gq,j,none⟩) (fun h=>n3 h.symm) _,hq.set j qd,by rw[d2];exact Hr.out.lu,by rw[List.length_set];exact Hr.out.lq,Hr.out.d.next (by have:=Hr.out.lu;omega) (by have:=Hr.out.lq;omega) Hlv.out Hdv.out d2 d3 d4 d5 d6 d7 d8,(Below.only Hr.out.bel d9 n4).setCell (p:=⟨gq,j,none⟩) hgw _⟩
  have hq:Hid (KBlk .u32 w5 gq 77 Q):=by
   obtain⟨U',d1,d2,d3,d4,d5,d6,d7,d8,d9⟩:=hD;exact Hr.out.kq.only d9 n2
  have hfq:=hq.out.frozen j;have hcq:=hq.out.cell (i:=j) (by have:=Hr.out.lq;omega);have hjM:(j:Int)<M:=by omega
  clear hD HD hU Hr
  go_wp2
  go_roundw
  case rel=>
   obtain⟨U',h'⟩:=Hn.out;exact⟨j,U',_,by omega,rfl,h'⟩
  case measure=>simp[intOf]
theorem divide_any(A B:Option Addr)(n c m d:Nat)(a b:List Int)(w:World)(ha:SlR .u32 w A n c a)(hb:SlR .u32 w B m d b)(da:Dig a)(db:Dig b)(na:Norm a)(nb:Norm b)(hn:n≤1000000000)(hm:0<m):
  qyc 194 #[.slice A n c,.slice B m d] w fun e w'=>DivF w w' e (Nt.val a) (Nt.val b):=by
 rcases Int.lt_or_le (Nt.val a) (Nt.val b) with h|h
 ·exact divide_lt _ _ _ _ _ _ _ _ _ ha hb da db na hn h
 rcases m with _|_|N
 ·omega
 ·obtain⟨y,rfl⟩:∃y,b=[y]:=List.length_eq_one_iff.1 hb.1;have hy:=db.head;have hl:=norm_last (k:=0) nb rfl
  simp at hl
  exact divide_one _ _ _ _ _ _ _ _ ha hb da hy xq hn (by simpa[Nt.val] using h)
 exact divide_long _ _ _ _ _ _ _ _ _ ha hb da db na nb hn h
def DivMF(w0 w:World)(e:Ending)(a b:Int):Prop:=∃A1 n1 c1 A2 n2 c2,e=.returned (.tuple #[.slice A1 n1 c1,.slice A2 n2 c2,.int .i64 0])∧NatF w0 w A1 n1 c1 (a/b).toNat∧NatF w0 w A2 n2 c2 (a%b).toNat∧Below w0.heap.size w0 w
theorem DivMod_any(A B:Option Addr)(n c m d:Nat)(a b:List Int)(w:World)(ha:SlR .u32 w A n c a)(hb:SlR .u32 w B m d b)(da:Dig a)(db:Dig b)(hn:n≤1000000000)(hz:Nt.val b≠0):
  qyc 162 #[.slice A n c,.slice B m d] w fun e w'=>DivMF w w' e (Nt.val a) (Nt.val b):=by
 have lx:(strip a).length≤n:=by rw[←ha.1];exact zyh a
 have ly:(strip b).length≤m:=by rw[←hb.1];exact zyh b
 have hx:=ha.upto (m:=(strip a).length) lx;have hy:=hb.upto (m:=(strip b).length) ly;rw[←strip_take] at hx hy
 have hp:0<(strip b).length:=by
  rcases Nat.eq_zero_or_pos (strip b).length with h|h
  ·exfalso
   apply hz
   rw[←zwn,List.eq_nil_of_length_eq_zero h];rfl
  exact h
 have hpb:(((strip b).length:Int)==0)=false:=by rw[beq_eq_false_iff_ne];omega
 go_enter Tryz.func162,Tryz.ntmps162
 go_wp2_with fail
 refine(zwj _ _ _ _ _ hb).mono ?_;rintro e w1 ⟨rfl,rfl⟩
 go_wp2_with fail
 refine(zwj _ _ _ _ _ ha).mono ?_;rintro e w1 ⟨rfl,rfl⟩
 go_wp2_with fail
 refine(divide_any _ _ _ _ _ _ _ _ _ hx hy (strip_dig da) (strip_dig db) (strip_norm a) (strip_norm b) xq hp).mono ?_;rintro e w1 ⟨A1,n1,c1,A2,n2,c2,rfl,f1,f2,hbl⟩;rw[zwn,zwn] at f1 f2;have F1:=Lib.hid f1;have F2:=Lib.hid f2;clear f1 f2
 go_wp2
 go_ret3
 exact⟨A1,n1,c1,A2,n2,c2,rfl,F1.out,F2.out,hbl⟩
namespace Nt
theorem or_zero{x:Int}(h0:0≤x)(h1:x<4294967296):bits .or .u64 0 x=x:=by
 have:=or_top (x:=0) (y:=x) xq xq h0 h1
 simpa using this
theorem or_swap{x y:Int}(h0:0≤x)(h1:x<4294967296)(k0:0≤y)(k1:y<4294967296):bits .or .u64 x (y*4294967296)=x+y*4294967296:=by
 have hc:bits .or .u64 x (y*4294967296)=bits .or .u64 (y*4294967296) x:=by simp only[bits,BitVec.or_comm]
 rw[hc,or_top k0 k1 h0 h1];omega
end Nt
theorem small_any(A:Option Addr)(n c:Nat)(a:List Int)(w:World)(ha:SlR .u32 w A n c a)(da:Dig a)(hn:n≤2):
  qyc 196 #[.slice A n c] w fun e w'=>e=.returned (.int .u64 (Nt.val a))∧w=w':=by
 have hl:=Lib.hid ha.1;have Hd:=Lib.hid da;clear da
 go_enter Tryz.func196,Tryz.ntmps196
 go_wp2
 go_loop [3,8] (fun v iv=>∃i:Nat,i≤n∧iv=.int .i64 i∧v=.int .u64 (valTo a i)) (fun _ iv=>n-(intOf iv).toNat)
 case atStart=>exact⟨0,by omega,rfl,by rw[zxe]⟩
 case round=>
  obtain⟨i,hi,rfl,rfl⟩:=hrel
  by_cases hin:i<n
  ·obtain⟨b1,o1,rfl,_,aa⟩:=ha.pos hin;have hx:=Hd.out.at i;have Hs:=Lib.hid (zyf a i);obtain⟨x,hxx⟩:∃x,x=a[i]?.getD 0:=⟨_,rfl⟩
   rw[←hxx] at aa hx;have Hx:=Lib.hid hxx;clear hxx
   rcases i with _|_|i
   ·have or1:=or_zero hx.1 hx.2;have Hr:Hid (valTo a 1=x):=by have:=Hs.out;rw[zxe,←Hx.out] at this;show _=_;simpa[pw] using this
    rw[zxe]
    simp only[Nat.add_zero] at aa
    go_wp2
    go_round
    case rel=>exact⟨1,by omega,by go_num,by rw[Hr.out]⟩
    case measure=>simp[intOf];omega
   ·have h1:=zyy Hd.out 1;have h2:=zxr Hd.out 1;have or1:=or_swap h1 h2 hx.1 hx.2;have Hr:Hid (valTo a 2=valTo a 1+x*4294967296):=by have:=Hs.out;rw[←Hx.out] at this;simp only[pw,Nat.zero_add] at this;show _=_;rw[this];omega
    have h2':valTo a 1<4294967296:=h2;clear h2
    go_wp2
    go_round
    case rel=>exact⟨2,by omega,by go_num,by rw[Hr.out]⟩
    case measure=>simp[intOf];omega
   omega
  obtain rfl:i=n:=by omega
  go_wp2
  go_ret
  exact⟨by rw[zyg a (by have:=hl.out;omega)];rfl,rfl⟩
end Go.Proofs.YtcpnfblekhgmgaaGreat
namespace Go.Proofs.YtcpnfblekhgmgaaGreat.Nt
structure Leh(x y p0 q0 p q a b c d:Int):Prop where
 ep:p=a*p0+b*q0
 eq:q=c*p0+d*q0
 sign:(0≤a∧b≤0∧c≤0∧0≤d)∨(a≤0∧0≤b∧0≤c∧d≤0)
 pa:0≤p+a
 pb:0≤p+b
 qc:0≤q+c
 qd:0≤q+d
 ba:-2147483647≤a∧a≤2147483647
 bb:-2147483647≤b∧b≤2147483647
 bc:-2147483647≤c∧c≤2147483647
 bd:-2147483647≤d∧d≤2147483647
 y0:0≤c*x+d*y
 yx:c*x+d*y≤a*x+b*y
 xx:a*x+b*y≤x
 less:(a=1∧b=0∧c=0∧d=1)∨c*x+d*y<y
 xy:(a=1∧b=0∧c=0∧d=1)∨a*x+b*y≤y
 gcd:Int.gcd (a*x+b*y) (c*x+d*y)=Int.gcd x y
 pm:p≤4611686018427387904
 qm:q≤4611686018427387904
theorem Leh.start{x y p0 q0:Int}(hy:0≤y)(hxy:y≤x)(hp:0≤p0)(hq:0≤q0)(hp':p0≤4611686018427387904)(hq':q0≤4611686018427387904):Leh x y p0 q0 p0 q0 1 0 0 1:=by
 refine⟨by omega,by omega,by omega,by omega,by omega,by omega,by omega,by omega,by omega,by omega,by omega,by omega,by omega,by omega,.inl ⟨rfl,rfl,rfl,rfl⟩,.inl ⟨rfl,rfl,rfl,rfl⟩,by simp,hp',hq'⟩
theorem Leh.p0{x y p0 q0 p q a b c d:Int}(h:Leh x y p0 q0 p q a b c d):0≤p:=by
 have:=h.pa;have:=h.pb;rcases h.sign with s|s<;>omega
theorem Leh.q0{x y p0 q0 p q a b c d:Int}(h:Leh x y p0 q0 p q a b c d):0≤q:=by
 have:=h.qc;have:=h.qd;rcases h.sign with s|s<;>omega
theorem fl{n m f:Int}(hm:0<m)(hf:f=n/m):0≤n-f*m∧n-f*m<m:=by
 have e:=Int.mul_ediv_add_emod n m;have h0:=Int.emod_nonneg n (b:=m) xq;have h1:=Int.emod_lt_of_pos n hm;rw[hf,Int.mul_comm];omega
theorem corner_ge{r e g K ex ey:Int}(hK:0≤K)(hx0:0≤ex)(hx1:ex≤K)(hy0:0≤ey)(hy1:ey≤K)(h:(0≤e∧g≤0∧0≤r+g)∨(e≤0∧0≤g∧0≤r+e)):0≤r*K+e*ex+g*ey:=by
 rcases h with ⟨h1,h2,h3⟩|⟨h1,h2,h3⟩
 ·have a1:0≤e*ex:=Int.mul_nonneg h1 hx0;have a2:g*K≤g*ey:=Int.mul_le_mul_of_nonpos_left h2 hy1;have a3:0≤(r+g)*K:=Int.mul_nonneg h3 hK;rw[Int.add_mul] at a3
  omega
 have a1:0≤g*ey:=Int.mul_nonneg h2 hy0;have a2:e*K≤e*ex:=Int.mul_le_mul_of_nonpos_left h1 hx1;have a3:0≤(r+e)*K:=Int.mul_nonneg h3 hK;rw[Int.add_mul] at a3
 omega
theorem Leh.step{x y p0 q0 p q a b c d f K Z ex ey:Int}(h:Leh x y p0 q0 p q a b c d)(hK:0<K)(hZ:0<Z)
  (hx:x*Z=p0*K+ex) (hx0:0≤ex) (hx1:ex<K) (hy:y*Z=q0*K+ey) (hy0:0≤ey) (hy1:ey<K)
  (h1:q+c≠0) (h2:q+d≠0) (f1:f=(p+a)/(q+c)) (f2:f=(p+b)/(q+d))
  (be:-2147483647≤a-f*c∧a-f*c≤2147483647) (bg:-2147483647≤b-f*d∧b-f*d≤2147483647) :
  Leh x y p0 q0 q (p-f*q) c d (a-f*c) (b-f*d)∧(p-f*q)+(a-f*c)<q+c:=by
 have u1:=fl (by have:=h.qc;omega) f1;have u2:=fl (by have:=h.qd;omega) f2;have f0:0≤f:=by rw[f1];exact Int.ediv_nonneg h.pa h.qc
 have q0':=h.q0;have hqm:=h.qm;have hpm:=h.pm;have e1:(p-f*q)+(a-f*c)=(p+a)-f*(q+c):=by grind
 have e2:(p-f*q)+(b-f*d)=(p+b)-f*(q+d):=by grind
 have s:(0≤c∧d≤0∧a-f*c≤0∧0≤b-f*d)∨(c≤0∧0≤d∧0≤a-f*c∧b-f*d≤0):=by
  rcases h.sign with ⟨s1,s2,s3,s4⟩|⟨s1,s2,s3,s4⟩
  ·have:=Int.mul_nonpos_of_nonneg_of_nonpos f0 s3;have:=Int.mul_nonneg f0 s4
   omega
  have:=Int.mul_nonpos_of_nonneg_of_nonpos f0 s4;have:=Int.mul_nonneg f0 s3
  omega
 -- the remainder is not negative
 have r0:0≤(a-f*c)*x+(b-f*d)*y:=by
  have k:=corner_ge (r:=p-f*q) (e:=a-f*c) (g:=b-f*d) (K:=K) (ex:=ex) (ey:=ey) xq hx0 xq hy0 xq xq
  have e:(p-f*q)*K+(a-f*c)*ex+(b-f*d)*ey=((a-f*c)*x+(b-f*d)*y)*Z:=by
   have ex':ex=x*Z-p0*K:=by omega
   have ey':ey=y*Z-q0*K:=by omega
   rw[ex',ey',h.ep,h.eq];grind
  rw[e] at k;exact Int.nonneg_of_mul_nonneg_left k hZ
 -- and less than the divisor
 have r1:(a-f*c)*x+(b-f*d)*y<c*x+d*y:=by
  have k:=corner_ge (r:=-(p-f*q-q)-1) (e:=-(a-f*c-c)) (g:=-(b-f*d-d)) (K:=K) (ex:=ex) (ey:=ey) xq hx0 xq hy0 xq
   (by rcases s with s|s
       ·exact .inl ⟨by omega,by omega,by omega⟩
       exact .inr ⟨by omega,by omega,by omega⟩)
  have e:(-(p-f*q-q)-1)*K + -(a-f*c-c)*ex + -(b-f*d-d)*ey=(c*x+d*y-((a-f*c)*x+(b-f*d)*y))*Z-K:=by
   have ex':ex=x*Z-p0*K:=by omega
   have ey':ey=y*Z-q0*K:=by omega
   rw[ex',ey',h.ep,h.eq];grind
  rw[e] at k;have k':0<(c*x+d*y-((a-f*c)*x+(b-f*d)*y))*Z:=by omega
  rcases Int.lt_or_le 0 (c*x+d*y-((a-f*c)*x+(b-f*d)*y)) with h'|h'
  ·omega
  have:=Int.mul_nonpos_of_nonpos_of_nonneg h' (Int.le_of_lt hZ)
  omega
 refine⟨⟨h.eq,by rw[h.ep,h.eq];grind,s,h.qc,h.qd,by omega,by omega,h.bc,h.bd,be,bg,r0,by omega,?_,?_,?_,?_,hqm,?_⟩,by omega⟩
 ·have:=h.yx;have:=h.xx;omega
 ·right
  rcases h.xy with ⟨_,_,rfl,rfl⟩|hxy
  ·omega
  have:=h.yx;omega
 ·right
  rcases h.less with ⟨_,_,rfl,rfl⟩|hl
  ·omega
  omega
 ·rw[←h.gcd];have e:(a-f*c)*x+(b-f*d)*y=(a*x+b*y)-f*(c*x+d*y):=by grind
  rw[e,Int.gcd_comm,Int.sub_eq_add_neg,←Int.neg_mul,Int.gcd_add_mul_right_left]
 have:0≤f*q:=Int.mul_nonneg f0 q0'
 omega
theorem comb_step{S x y:List Int}{i:Nat}{f g cy t:Int}(hi:i<S.length)(h:valTo S i+cy*pw i=f*valTo x i+g*valTo y i)(ht:t=f*x[i]?.getD 0+cy+g*y[i]?.getD 0):
  valTo (S.set i (t%4294967296)) (i+1)+(t/4294967296)*pw (i+1)=f*valTo x (i+1)+g*valTo y (i+1):=by
 rw[zxl S _ hi,zyf,zyf,pw];have e:=Int.mul_ediv_add_emod t 4294967296;generalize t%4294967296=r at *;generalize t/4294967296=q at *
 grind
theorem mul_range{f d:Int}(h0:-2147483647≤f)(h1:f≤2147483647)(d0:0≤d)(d1:d<4294967296):-9223372030412324865≤f*d∧f*d≤9223372030412324865∧(0≤f→0≤f*d)∧(f≤0→f*d≤0):=by
 have a1:f*d≤2147483647*d:=Int.mul_le_mul_of_nonneg_right h1 d0;have a2:-2147483647*d≤f*d:=Int.mul_le_mul_of_nonneg_right h0 d0;exact⟨by omega,by omega,fun h=>Int.mul_nonneg h d0,fun h=>Int.mul_nonpos_of_nonpos_of_nonneg h d0⟩
theorem mul_range2{f c:Int}(h0:0≤f)(h1:f≤2147483647)(d0:-2147483647≤c)(d1:c≤2147483647):-4611686014132420609≤f*c∧f*c≤4611686014132420609:=by
 have a1:f*c≤f*2147483647:=Int.mul_le_mul_of_nonneg_left d1 h0;have a2:f*(-2147483647)≤f*c:=Int.mul_le_mul_of_nonneg_left d0 h0
 omega
end Go.Proofs.YtcpnfblekhgmgaaGreat.Nt
namespace Go.Proofs.YtcpnfblekhgmgaaGreat
open Nt
open Go.RowKit
theorem combine_any(A B:Option Addr)(n c m d:Nat)(x y:List Int)(f g:Int)(w:World)(ha:SlR .u32 w A n c x)(hb:SlR .u32 w B m d y)(da:Dig x)(db:Dig y)(hn:n≤1000000000)(hm:m≤n)
  (f0:-2147483647≤f) (f1:f≤2147483647) (g0:-2147483647≤g) (g1:g≤2147483647) (hfg:(0≤f∧g≤0)∨(f≤0∧0≤g)) (h0:0≤f*Nt.val x+g*Nt.val y) (h1:f*Nt.val x+g*Nt.val y≤Nt.val x) :
  qyc 207 #[.slice A n c,.slice B m d,.int .i64 f,.int .i64 g] w fun e w'=>∃A' n' c',e=.returned (.slice A' n' c')∧NatF w w' A' n' c' (f*Nt.val x+g*Nt.val y).toNat∧Below w.heap.size w w':=by
 have hlx:=Lib.hid ha.1;have hly:=Lib.hid hb.1;have Hda:=Lib.hid da;have Hdb:=Lib.hid db;have Hfg:=Lib.hid hfg;have H0:=Lib.hid h0;have H1:=Lib.hid h1;clear hfg h0 h1 da db
 go_enter Tryz.func207,Tryz.ntmps207
 go_wp2_with (at_make;refine zxg _ rfl (.tmp 15) (.tmp 15) _ rfl 77 .u32 4 Tryz.underlying31 zxj _ _ _ _ n rfl rfl ?L ?C ?b2 ?b3 ?_)
 case L=>rfl
 case C=>rfl
 case b2=>omega
 case b3=>unfold maxLen;omega
 intro w2 aa hb2' ac;have ab:Below w.heap.size w w2:=hb2';obtain⟨gr,hg⟩:∃g,g=w.heap.size:=⟨_,rfl⟩
 have hgw:w.heap.size≤gr:=by omega
 rw[←hg] at aa ⊢;clear ac hg hb2'
 go_wp2
 go_loopw [10,19] (fun cv iv wr=>∃(i:Nat) (cy:Int) (S:List Int),i≤n∧-2147483648≤cy∧cy≤2147483648∧cv=.int .i64 cy∧iv=.int .i64 i∧KBlk .u32 wr gr 77 S∧Hid (S.length=n)∧Hid (Dig S)∧Hid (valTo S i+cy*pw i=f*valTo x i+g*valTo y i)∧Below w.heap.size w wr) (fun _ iv _=>n-(intOf iv).toNat)
 case atStart=>exact⟨0,0,_,by omega,by omega,by omega,rfl,rfl,aa,by simp[Hid],Dig.repl _,by simp[Hid,zxe],ab⟩
 case round=>
  obtain⟨i,cy,S,hi,c0,c1,rfl,rfl,hk,hS,dS,hv,hbr⟩:=hrel;clear aa ab
  by_cases hiX:i<n
  ·obtain⟨b1,o1,rfl,_,ae⟩:=(ha.below hbr).pos hiX;have q1:=Hda.out.at i;have hc3:=hk.cell (i:=i) (by have:=hS.out;omega);have hf3:=hk.frozen i;obtain⟨xi,hxi⟩:∃xi,xi=x[i]?.getD 0:=⟨_,rfl⟩
   rw[←hxi] at ae q1;have Hxi:=Lib.hid hxi;have r1:=mul_range f0 f1 q1.1 q1.2;clear hxi
   by_cases hiY:i<m
   ·obtain⟨b2,o2,rfl,_,ad⟩:=(hb.below hbr).pos hiY;have q2:=Hdb.out.at i;obtain⟨yi,hyi⟩:∃yi,yi=y[i]?.getD 0:=⟨_,rfl⟩
    rw[←hyi] at ad q2;have Hyi:=Lib.hid hyi;have r2:=mul_range g0 g1 q2.1 q2.2;have hiY':(i:Int)<m:=by omega
    have Hst:=Lib.hid (comb_step (t:=f*xi+cy+g*yi) (by have:=hS.out;omega) hv.out (by rw[Hxi.out,Hyi.out]));have t0:-9223372034707292161≤f*xi+cy+g*yi:=by rcases Hfg.out with ⟨k1,k2⟩|⟨k1,k2⟩<;>(have:=r1.2.2.1;have:=r1.2.2.2;have:=r2.2.2.1;have:=r2.2.2.2;omega)
    have t1:f*xi+cy+g*yi≤9223372034707292161:=by rcases Hfg.out with ⟨k1,k2⟩|⟨k1,k2⟩<;>(have:=r1.2.2.1;have:=r1.2.2.2;have:=r2.2.2.1;have:=r2.2.2.2;omega)
    have s0:=r1.1;have s1:=r1.2.1;have s2:=r2.1;have s3:=r2.2.1;clear hyi r1 r2 hv
    go_wp2
    go_roundw
    case rel=>exact⟨i+1,_,_,by omega,by omega,by omega,rfl,by go_num,hk.set i _,by have:=hS.out;show _=_;simpa using this,dS.out.set i xq,Hst.out,hbr.setCell (p:=⟨gr,i,none⟩) hgw _⟩
    case measure=>simp[intOf];omega
   have hiY':¬(i:Int)<m:=by omega
   have e0:y[i]?.getD 0=0:=by rw[List.getElem?_eq_none (by have:=hly.out;omega)];rfl
   have Hst:=Lib.hid (comb_step (t:=f*xi+cy) (by have:=hS.out;omega) hv.out (by rw[Hxi.out,e0];simp));have s0:=r1.1;have s1:=r1.2.1;clear r1 hv e0
   go_wp2
   go_roundw
   case rel=>exact⟨i+1,_,_,by omega,by omega,by omega,rfl,by go_num,hk.set i _,by have:=hS.out;show _=_;simpa using this,dS.out.set i xq,Hst.out,hbr.setCell (p:=⟨gr,i,none⟩) hgw _⟩
   case measure=>simp[intOf];omega
  obtain rfl:i=n:=by omega
  have hval:Nt.val S=f*Nt.val x+g*Nt.val y:=by
   have h1:=hv.out;rw[zyg S (by have:=hS.out;omega),zyg x (by have:=hlx.out;omega),zyg y (by have:=hly.out;omega)] at h1;have h5:=val_lt dS.out;have h6:=zxc dS.out;have h7:=val_lt Hda.out;have h8:=H0.out;have h9:=H1.out;rw[hS.out] at h5;rw[hlx.out] at h7;have hp:=pw_pos i
   have:cy=0:=by
    rcases Int.lt_trichotomy cy 0 with h|h|h
    ·have:cy*pw i≤(-1)*pw i:=Int.mul_le_mul_of_nonneg_right xq xq
     omega
    ·exact h
    have:1*pw i≤cy*pw i:=Int.mul_le_mul_of_nonneg_right xq xq
    omega
   rw[this] at h1
   omega
  have hsl:=hk.slr_all (n:=i) (c:=i) hS.out xq yv;have hfr:=zwb (w0:=w) hk hS.out yv dS.out hgw;rw[hval] at hfr;have HF:=Lib.hid hfr;clear hval hfr
  go_wp2_with fail
  refine(zwj _ _ _ _ _ hsl).mono ?_;rintro e w1 ⟨rfl,rfl⟩
  go_wp2
  go_ret
  exact⟨_,_,_,rfl,HF.out,hbr⟩
def mx4(x y z u:Int):Int:=let m1:=if y>x then y else x;let m2:=if z>m1 then z else m1;if u>m2 then u else m2
theorem mx4_lt(x y z u l:Int):l<mx4 x y z u↔(l<x∨l<y∨l<z∨l<u):=by
 unfold mx4
 simp only[]
 split<;>split<;>split<;>omega
theorem run_max4{P:Program}(w:World)(ts:Array TypeId)(t:TypeId)(x y z u:Int):(Builtin.max_ ts t #[.int .i64 x,.int .i64 y,.int .i64 z,.int .i64 u]).run P w=.ok (.int .i64 (mx4 x y z u)) w:=by
 simp[Builtin.max_,Builtin.max2,mx4,List.foldlM]
def CofF(x y p0 q0:Int)(e:Ending):Prop:=∃a b c d,e=.returned (.tuple #[.int .i64 a,.int .i64 b,.int .i64 c,.int .i64 d])∧∃p q,Leh x y p0 q0 p q a b c d
theorem cofactors_any(x y p0 q0 K Z ex ey:Int)(w:World)(hK:0<K)(hZ:0<Z)(hx:x*Z=p0*K+ex)(hx0:0≤ex)(hx1:ex<K)(hy:y*Z=q0*K+ey)(hy0:0≤ey)(hy1:ey<K)(y0:0≤y)(hxy:y≤x)(hp:0≤p0)(hq:0≤q0)(hp':p0≤4611686018427387904)(hq':q0≤4611686018427387904):
  qyc 205 #[.int .i64 p0,.int .i64 q0] w fun e w'=>CofF x y p0 q0 e∧w=w':=by
 have Hx:=Lib.hid hx;have Hy:=Lib.hid hy;have H0:=Lib.hid (Leh.start y0 hxy hp hq hp' hq');have hmax:=fun(w:World) (ts:Array TypeId) (t:TypeId) (x y z u:Int)=>run_max4 (P:=Tryz.prog) w ts t x y z u;clear hx hy
 go_enter Tryz.func205,Tryz.ntmps205
 go_upto_block 0 with (fail)
 go_cut [4,5,6,7] (fun s4 s5 s6 s7 wx=>∃a b c d:Int,s4=.int .i64 a∧s5=.int .i64 b∧s6=.int .i64 c∧s7=.int .i64 d∧Hid (∃p q,Leh x y p0 q0 p q a b c d)∧wx=w)
 case first=>
  go_wp2
  go_loop [0,1,4,5,6,7] (fun s0 s1 s4 s5 s6 s7=>∃p q a b c d:Int,s0=.int .i64 p∧s1=.int .i64 q∧s4=.int .i64 a∧s5=.int .i64 b∧s6=.int .i64 c∧s7=.int .i64 d∧Hid (Leh x y p0 q0 p q a b c d)) (fun _ s1 _ _ s6 _=>(intOf s1+intOf s6).toNat)
  case atStart=>exact⟨p0,q0,1,0,0,1,rfl,rfl,rfl,rfl,rfl,rfl,H0⟩
  case round=>
   obtain⟨p,q,a,b,c,d,rfl,rfl,rfl,rfl,rfl,rfl,hL⟩:=hrel;clear H0;have k1:=hL.out.p0;have k2:=hL.out.q0;have k3:=hL.out.pm;have k4:=hL.out.qm;have k5:=hL.out.ba;have k6:=hL.out.bb;have k7:=hL.out.bc;have k8:=hL.out.bd;have m1:=hL.out.pa;have m2:=hL.out.pb;have m3:=hL.out.qc;have m4:=hL.out.qd
   by_cases z1:q+c=0
   ·have z1':(q+c != 0)=false:=by rw[z1];rfl
    clear z1
    go_wp2
    go_meet
    exact⟨a,b,c,d,rfl,rfl,rfl,rfl,⟨p,q,hL.out⟩,rfl⟩
   have z1':(q+c != 0)=true:=by rw[bne_iff_ne];exact z1
   have z1'':(q+c==0)=false:=by rw[beq_eq_false_iff_ne];exact z1
   by_cases z2:q+d=0
   ·have z2':(q+d != 0)=false:=by rw[z2];rfl
    clear z1 z2
    go_wp2
    go_meet
    exact⟨a,b,c,d,rfl,rfl,rfl,rfl,⟨p,q,hL.out⟩,rfl⟩
   have z2':(q+d != 0)=true:=by rw[bne_iff_ne];exact z2
   have z2'':(q+d==0)=false:=by rw[beq_eq_false_iff_ne];exact z2
   have z3:1≤q+c:=by omega
   have z4:1≤q+d:=by omega
   have Hz1:=Lib.hid z1;have Hz2:=Lib.hid z2;obtain⟨f,hf⟩:∃f,(p+a)/(q+c)=f:=⟨_,rfl⟩
   have f0:0≤f:=by rw[←hf];exact Int.ediv_nonneg m1 m3
   have Hf:=Lib.hid hf
   by_cases e2:(p+b)/(q+d)=f
   ·by_cases e3:2147483647<f
    ·clear z1 z2
     go_wp2
     go_meet
     exact⟨a,b,c,d,rfl,rfl,rfl,rfl,⟨p,q,hL.out⟩,rfl⟩
    have He2:=Lib.hid e2;have b1:=mul_range2 f0 xq k7.1 k7.2;have b2:=mul_range2 f0 xq k8.1 k8.2;have b3:=fl (n:=p+a) (m:=q+c) (f:=f) xq hf.symm;have b4:f*(q+c)=f*q+f*c:=Int.mul_add _ _ _;have b5:0≤f*q:=Int.mul_nonneg f0 k2;have b6:f*q≤p+a-f*c:=by omega
    have b1a:=b1.1;have b1b:=b1.2;have b2a:=b2.1;have b2b:=b2.2
    by_cases hm:2147483647<mx4 (a-f*c) (-(a-f*c)) (b-f*d) (-(b-f*d))
    ·clear z1 z2 b4 b3
     go_wp2
     go_meet
     exact⟨a,b,c,d,rfl,rfl,rfl,rfl,⟨p,q,hL.out⟩,rfl⟩
    have hm':=hm;rw[mx4_lt] at hm';have be:-2147483647≤a-f*c∧a-f*c≤2147483647:=by omega
    have bg:-2147483647≤b-f*d∧b-f*d≤2147483647:=by omega
    have hN:=hL.out.step hK hZ Hx.out hx0 hx1 Hy.out hy0 hy1 Hz1.out Hz2.out Hf.out.symm He2.out.symm be bg;have HN:=Lib.hid hN.1;have HM:=Lib.hid hN.2;clear z1 z2 b4 b3 hm' hN
    go_wp2
    go_round
    case rel=>exact⟨q,p-f*q,c,d,_,_,rfl,rfl,rfl,rfl,rfl,rfl,HN⟩
    case measure=>simp[intOf];have:=HM.out;omega
   have e2':(f != (p+b)/(q+d))=true:=by rw[bne_iff_ne];exact fun h=>e2 h.symm
   clear z1 z2
   go_wp2
   go_meet
   exact⟨a,b,c,d,rfl,rfl,rfl,rfl,⟨p,q,hL.out⟩,rfl⟩
 case rest=>
  obtain⟨a,b,c,d,rfl,rfl,rfl,rfl,h,rfl⟩:=hcut
  go_wp2
  exact bodyPost_ret (v:=.tuple #[.int .i64 a,.int .i64 b,.int .i64 c,.int .i64 d]) (by simp[results,Tryz.results205,go_sem]) rfl ⟨⟨a,b,c,d,rfl,h.out⟩,rfl⟩
namespace Nt
theorem or_add{x y:Int}{s:Nat}(h:s<64)(h0:0≤x)(hm:x%2^s=0)(h1:x<18446744073709551616)(k0:0≤y)(k1:y<2^s):bits .or .u64 x y=x+y:=by
 have hp:(2:Int)^s≤9223372036854775808:=by
  have h1:(2:Nat)^s≤2^63:=Nat.pow_le_pow_right xq xq;have h2:((2^s:Nat):Int)≤((2^63:Nat):Int):=Int.ofNat_le.2 h1
  simpa using h2
 exact bits_join .u64 64 xw (fun n h0 h1=>by rw[IntKind.wrap_u64];omega) s _ _ h0 hm xq k0 k1 xq
def LeadF(a:List Int)(k s:Nat)(p:Int):Prop:=0≤p∧p<4611686018427387904∧∃ex,val a*2^s=p*(4*pw (k+1))+ex∧0≤ex∧ex<4*pw (k+1)
theorem lead_top{d1 d2 d3:Int}{s:Nat}(hs:s<32)(p1:0≤d1)(p2:0≤d2∧d2<4294967296)(p3:0≤d3∧d3<4294967296)(ht:(d1+1)*2^s≤4294967296):
  0≤(d1*4294967296+d2)*2^s∧(d1*4294967296+d2)*2^s+2^s≤18446744073709551616∧0≤d3*2^s∧d3*2^s<9223372036854775808∧0≤d3*2^s/4294967296∧d3*2^s/4294967296<2^s∧bits .or .u64 ((d1*4294967296+d2)*2^s) (d3*2^s/4294967296)=(d1*4294967296+d2)*2^s+d3*2^s/4294967296:=by
 have hp:=p2_pos s;have h3:=hi_lift hs p3.1 p3.2;have a0:0≤(d1*4294967296+d2)*2^s:=Int.mul_nonneg xq xq;have a1:(d1*4294967296+d2+1)*2^s≤((d1+1)*4294967296)*2^s:=Int.mul_le_mul_of_nonneg_right xq xq;have a2:((d1+1)*4294967296)*2^s=((d1+1)*2^s)*4294967296:=by rw[Int.mul_assoc,Int.mul_comm 4294967296,←Int.mul_assoc]
 have a3:(d1*4294967296+d2+1)*2^s=(d1*4294967296+d2)*2^s+2^s:=by rw[Int.add_mul _ 1,Int.one_mul]
 exact⟨a0,by omega,h3.1,h3.2.1,h3.2.2.1,h3.2.2.2,or_add xq a0 (Int.mul_emod_left _ _) xq h3.2.2.1 h3.2.2.2⟩
theorem lead_val{a:List Int}{k s:Nat}{d1 d2 d3 t:Int}(hs:s<32)(da:Dig a)(hl:a.length≤k+3)(e1:d1=a[k+2]?.getD 0)(e2:d2=a[k+1]?.getD 0)(e3:d3=a[k]?.getD 0)(ht:(d1+1)*2^s≤4294967296)(hT:t=(d1*4294967296+d2)*2^s+d3*2^s/4294967296):LeadF a k s (t/4):=by
 have p1:=da.at (k+2);have p2:=da.at (k+1);have p3:=da.at k;rw[←e1] at p1;rw[←e2] at p2;rw[←e3] at p3;obtain⟨q0,q1,q2,q3,q4,q5,_⟩:=lead_top (d3:=d3) hs p1.1 p2 p3 ht;have hp:=p2_pos s;have hk:=pw_pos k
 have hv:val a=valTo a k+pw k*(d3+4294967296*d2+4294967296*4294967296*d1):=by
  rw[←zyg a hl,zyf,zyf,zyf,←e1,←e2,←e3]
  simp only[pw]
  grind
 have hm:=mod_p2 (x:=d3) hs;have hd:=dig_lift (x:=d3) (lo:=2^s-1) hs xq xq;have v0:=zyy da k;have v1:=zxr da k;refine⟨by omega,by omega,val a*2^s-t/4*(4*pw (k+1)),by omega,?_⟩
 have e4:val a*2^s=t*pw (k+1)+(valTo a k*2^s+pw k*(d3*2^s%4294967296)):=by
  have e:=Int.mul_ediv_add_emod (d3*2^s) 4294967296;rw[hT,hv]
  simp only[pw]
  generalize d3*2^s/4294967296=q at *;generalize d3*2^s%4294967296=r at *
  grind
 have e5:t*pw (k+1)=t/4*(4*pw (k+1))+(t%4)*pw (k+1):=by
  have e:=Int.mul_ediv_add_emod t 4;generalize t/4=q at *;generalize t%4=r at *;rw[←e];grind
 have r0:0≤valTo a k*2^s:=Int.mul_nonneg v0 xq;have r1:valTo a k*2^s≤(pw k-1)*2^s:=Int.mul_le_mul_of_nonneg_right xq xq;rw[Int.sub_mul,Int.one_mul] at r1;have r2:0≤pw k*(d3*2^s%4294967296):=Int.mul_nonneg xq xq;have r3:pw k*(d3*2^s%4294967296)≤pw k*(4294967296-2^s):=Int.mul_le_mul_of_nonneg_left xq xq;rw[Int.mul_sub] at r3;have r4:pw (k+1)=pw k*4294967296:=by rw[pw,Int.mul_comm]
 have r5:0≤(t%4)*pw (k+1):=Int.mul_nonneg xq (by have:=pw_pos (k+1);omega);have r6:(t%4)*pw (k+1)≤3*pw (k+1):=Int.mul_le_mul_of_nonneg_right xq (by have:=pw_pos (k+1);omega)
 constructor<;>omega
end Nt
theorem at_any(i:Nat)(p:Addr)(A:Option Addr)(n c:Nat)(a:List Int)(w:World)(hp:w.cell? p=some (.slice A n c))(ha:SlR .u32 w A n c a)(da:Dig a)(hi:i≤2000000000):
  qyc 208 #[.int .i64 i,.pointer (some p)] w fun e w'=>e=.returned (.int .u64 (a[i]?.getD 0))∧w=w':=by
 have hl:=ha.1;have hm:=ha.2.2.1;have hc:=ha.2.1
 unfold maxLen at hm
 have hx:=da.at i
 by_cases h:i<n
 ·obtain⟨b,o,rfl,hb,hcell⟩:=ha.pos h;clear hl
  go_enter Tryz.func208,Tryz.ntmps208
  go_wp2
  go_ret
  exact⟨rfl,rfl⟩
 have e:a[i]?.getD 0=0:=by rw[List.getElem?_eq_none xq];rfl
 have E:=Lib.hid e;clear e hl
 go_enter Tryz.func208,Tryz.ntmps208
 go_wp2
 go_ret
 exact⟨by rw[E.out];rfl,rfl⟩
theorem leading_any(A:Option Addr)(n c k s:Nat)(a:List Int)(w:World)(ha:SlR .u32 w A n c a)(da:Dig a)(hn:n≤k+3)(hk:k≤1000000000)(hs:s<32)(ht:(a[k+2]?.getD 0+1)*2^s≤4294967296):
  qyc 206 #[.slice A n c,.int .i64 (k+3),.int .u64 s] w fun e w'=>(∃p,e=.returned (.int .i64 p)∧LeadF a k s p)∧Below w.heap.size w w':=by
 have p1:=da.at (k+2);have p2:=da.at (k+1);have p3:=da.at k;obtain⟨d1,e1⟩:∃d,d=a[k+2]?.getD 0:=⟨_,rfl⟩
 obtain⟨d2,e2⟩:∃d,d=a[k+1]?.getD 0:=⟨_,rfl⟩
 obtain⟨d3,e3⟩:∃d,d=a[k]?.getD 0:=⟨_,rfl⟩
 have E1:=Lib.hid e1;have E2:=Lib.hid e2;have E3:=Lib.hid e3;rw[←e1] at p1 ht;rw[←e2] at p2;rw[←e3] at p3;have hv:=lead_val (t:=(d1*4294967296+d2)*2^s+d3*2^s/4294967296) hs da (by rw[ha.1];exact hn) e1 e2 e3 ht rfl;have HV:=Lib.hid hv;obtain⟨q0,q1,q2,q3,q4,q5,q6⟩:=lead_top (d3:=d3) hs p1.1 p2 p3 ht;have hp:=p2_pos s;have or1:=or_top p1.1 p1.2 p2.1 p2.2;have hp2:=p2_le hs;have hbox:(w.alloc (.cells #[.slice A n c] 31)).cell? ⟨w.heap.size,0,none⟩=some (.slice A n c):=by simp[World.cell?_alloc_new]
 have Hbox:=Lib.hid hbox;clear e1 e2 e3 hv ht hbox
 go_enter Tryz.func206,Tryz.ntmps206
 go_wp2_with fail
 rw[show((k:Int)+3-1)=((k+2:Nat):Int) by omega];refine(at_any (k+2) _ A n c a _ Hbox.out (ha.alloc _) da xq).mono ?_;rintro e w1 ⟨rfl,rfl⟩;rw[←E1.out]
 go_wp2_with fail
 rw[show((k:Int)+3-2)=((k+1:Nat):Int) by omega];refine(at_any (k+1) _ A n c a _ Hbox.out (ha.alloc _) da xq).mono ?_;rintro e w1 ⟨rfl,rfl⟩;rw[←E2.out]
 go_wp2_with fail
 refine(at_any k _ A n c a _ Hbox.out (ha.alloc _) da xq).mono ?_;rintro e w1 ⟨rfl,rfl⟩;rw[←E3.out]
 go_wp2
 go_ret
 exact⟨⟨_,rfl,HV.out⟩,(Below.refl _ _).alloc qyl _⟩
theorem NatF.mono{w0 w1 w:World}{A:Option Addr}{n c v:Nat}(h:NatF w1 w A n c v)(hw:w0.heap.size≤w1.heap.size):NatF w0 w A n c v:=
 ⟨h.1,h.2.1,fun hp=>by obtain⟨a,e,k,t⟩:=h.2.2 hp;exact⟨a,e,by omega,t⟩⟩
namespace Nt
theorem top_le{x y:List Int}{k:Nat}(dx:Dig x)(dy:Dig y)(hx:x.length≤k+1)(hy:y.length≤k+1)(h:val y≤val x):y[k]?.getD 0≤x[k]?.getD 0:=by
 have ex:val x=valTo x k+pw k*x[k]?.getD 0:=by rw[←zyg x hx,zyf]
 have ey:val y=valTo y k+pw k*y[k]?.getD 0:=by rw[←zyg y hy,zyf]
 have a1:=zxr dx k;have a2:=zyy dy k;have hp:=pw_pos k;have:pw k*y[k]?.getD 0<pw k*(x[k]?.getD 0+1):=by rw[Int.mul_add];omega
 have:=Int.lt_of_mul_lt_mul_left this xq
 omega
theorem zxk{x y:Nat}(h:y≤x):(digits y).length≤(digits x).length:=by
 rcases Nat.lt_or_ge (digits x).length (digits y).length with h'|h'
 ·have:=len_lt (zyj x) (zyj y) (zxm y) h';rw[zyi,zyi] at this
  omega
 exact h'
theorem gcd_nat{a b x y:Int}(h:Int.gcd a b=Int.gcd x y)(a0:0≤a)(b0:0≤b)(x0:0≤x)(y0:0≤y):Nat.gcd a.toNat b.toNat=Nat.gcd x.toNat y.toNat:=by
 unfold Int.gcd at h
 rw[show a.natAbs=a.toNat by omega,show b.natAbs=b.toNat by omega,show x.natAbs=x.toNat by omega,show y.natAbs=y.toNat by omega] at h;exact h
theorem lz_int{y:Int}(h0:0<y)(h1:y<4294967296):∃z:Nat,32-(Lib.bitLen y.toNat:Int)=z∧z<32∧(y+1)*2^z≤4294967296:=by
 obtain⟨z,hz1,hz2,hz3,hz4⟩:=lz_spec (x:=y.toNat) xq xq;refine⟨z,hz1,hz2,?_⟩;have e:((y.toNat*2^z:Nat):Int)=y*2^z:=by rw[Int.natCast_mul,Int.natCast_pow];congr 1;omega
 have hs:=Nt.p2_split hz2;have p0:=Nt.p2_pos z;have h4:y*2^z<2^(32-z)*2^z:=by rw[Int.mul_comm (2^(32-z)),hs];omega
 have h5:=Int.lt_of_mul_lt_mul_right h4 xq;have h6:(y+1)*2^z≤2^(32-z)*2^z:=Int.mul_le_mul_of_nonneg_right xq xq;rw[Int.mul_comm (2^(32-z)),hs] at h6;exact h6
end Nt
def ShF(w0 w w':World)(e:Ending)(X Y:Nat):Prop:=∃A1 n1 c1 A2 n2 c2 X' Y',e=.returned (.tuple #[.slice A1 n1 c1,.slice A2 n2 c2])∧NatF w0 w' A1 n1 c1 X'∧NatF w0 w' A2 n2 c2 Y'∧Y'≤X'∧Y'<Y∧X'≤X∧Nat.gcd X' Y'=Nat.gcd X Y∧Below w.heap.size w w'
theorem shorten_any(w0 w:World)(A B:Option Addr)(n c m d X Y:Nat)(ha:NatF w0 w A n c X)(hb:NatF w0 w B m d Y)(hw:w0.heap.size≤w.heap.size)(hn:n≤1000000000)(hm:2<m)(hle:Y≤X):
  qyc 195 #[.slice A n c,.slice B m d] w fun e w'=>ShF w0 w w' e X Y:=by
 have hmn:m≤n:=by rw[ha.1,hb.1];exact zxk hle
 obtain⟨k,hk⟩:∃k,n=k+3:=⟨n-3,by omega⟩
 subst hk;have dx:=zyj X;have dy:=zyj Y;have ex:=zyi X;have ey:=zyi Y
 have ar:0<Y:=by
  rcases Nat.eq_zero_or_pos Y with h|h
  ·have:=hb.1;rw[h,zxa] at this;simp at this;omega
  exact h
 have tx:=norm_last (k:=k+2) (zxm X) ha.1.symm;have bx:=dx.at (k+2);obtain⟨z,ag,af,ah⟩:=lz_int (y:=(digits X)[k+2]?.getD 0) xq xq;have hty:=top_le (k:=k+2) dx dy (by rw[←ha.1];exact Nat.le_refl _) (by rw[←hb.1];exact hmn) (by rw[ex,ey];omega)
 have an:((digits Y)[k+2]?.getD 0+1)*2^z≤4294967296:=by
  have:((digits Y)[k+2]?.getD 0+1)*2^z≤((digits X)[k+2]?.getD 0+1)*2^z:=Int.mul_le_mul_of_nonneg_right xq (by have:=p2_pos z;omega)
  omega
 obtain⟨b1,o1,ap,_,aq⟩:=ha.2.1.pos (i:=k+2) xq;subst ap;obtain⟨t,ht⟩:∃t,t=(digits X)[k+2]?.getD 0:=⟨_,rfl⟩
 have Ha:=Lib.hid ha;have Hb:=Lib.hid hb;have ao:Hid (32-(Lib.bitLen t.toNat:Int)=z):=by rw[ht];exact ag
 have Hz3:=Lib.hid ah;have Hz4:=Lib.hid an;have Ex:=Lib.hid ex;have Ey:=Lib.hid ey;rw[←ht] at aq bx tx;clear ha hb ex ey ag ah an ht hty
 go_enter Tryz.func195,Tryz.ntmps195
 go_wp2_with fail
 refine(LeadingZeros32_any t _ bx.1 bx.2).mono ?_;rintro e w1 ⟨rfl,rfl⟩;rw[ao.out];have hlz:(0:Int)≤(z:Int)∧(z:Int)<32:=by omega
 go_wp2_with fail
 refine(leading_any _ _ _ k z _ _ Ha.out.2.1 dx qyl xq af Hz3.out).mono ?_;rintro e w2 ⟨⟨p,rfl,hp⟩,ad⟩;have Hp:=Lib.hid hp;clear hp
 go_wp2_with fail
 refine(leading_any _ _ _ k z _ _ (Hb.out.2.1.below ad) dy hmn xq af Hz4.out).mono ?_;rintro e w3 ⟨⟨q,rfl,hq⟩,aj⟩;have Hq:=Lib.hid hq;have aa:Hid (Below w1.heap.size w1 w3):=ad.trans (aj.mono ad.size);clear hq ad aj;obtain⟨p0,p1,ex,hex,ak,am⟩:=Hp.out;obtain⟨q0,q1,ey,hey,ai,al⟩:=Hq.out;rw[Ex.out] at hex;rw[Ey.out] at hey;have HC:=cofactors_any X Y p q (4*pw (k+1)) (2^z) ex ey w3 (by have:=pw_pos (k+1);omega) (p2_pos z) hex ak am hey ai al xq xq p0 q0 xq xq;clear hex hey ak am ai al
 go_wp2_with fail
 refine HC.mono ?_;rintro e w4 ⟨⟨a,b,c',d',rfl,hL⟩,rfl⟩;have HL:=Lib.hid hL;clear hL HC
 by_cases hb0:b=0
 ·subst hb0
  go_wp2_with fail
  refine(divide_any _ _ _ _ _ _ _ _ _ (Ha.out.2.1.below aa.out) (Hb.out.2.1.below aa.out) dx dy (zxm X) (zxm Y) xq xq).mono ?_;rintro e w5 ⟨A1,n1,c1,A2,n2,c2,rfl,f1,f2,hbl⟩;have F2:=Lib.hid f2;have Hbl:=Lib.hid hbl;clear f1 f2 hbl
  go_wp2
  go_ret2
  have f2:=F2.out;rw[Ex.out,Ey.out,←Int.natCast_emod,Int.toNat_natCast] at f2;have hs:=aa.out.size;have hr:=Nat.mod_lt X ar;refine⟨B,m,d,A2,n2,c2,Y,X%Y,rfl,(Hb.out.below aa.out).below Hbl.out,f2.mono xq,by omega,hr,hle,?_,aa.out.trans (Hbl.out.mono hs)⟩;rw[Nat.gcd_comm X Y,Nat.gcd_rec Y X,Nat.gcd_comm]
 have hbb:(b==0)=false:=by rw[beq_eq_false_iff_ne];exact hb0
 obtain⟨P,Q,l⟩:=HL.out;have s1:(0≤a∧b≤0)∨(a≤0∧0≤b):=by rcases l.sign with s|s<;>omega
 have s2:(0≤c'∧d'≤0)∨(c'≤0∧0≤d'):=by rcases l.sign with s|s<;>omega
 have hy1:=l.y0;have hyx:=l.yx;have hxx:=l.xx;have hlt:c'*X+d'*Y<Y:=by rcases l.less with h|h;exact absurd h.2.1 hb0;exact h
 have hg:=l.gcd;have H:=Lib.hid hy1;have H2:=Lib.hid hyx;have H3:=Lib.hid hxx;have H4:=Lib.hid hlt;have H5:=Lib.hid hg;have la:=l.ba;have lb:=l.bb;have lc:=l.bc;have ld:=l.bd;clear l hy1 hyx hxx hlt hg hb0 HL Hp Hq
 go_wp2_with fail
 refine(combine_any _ _ _ _ _ _ _ _ a b _ (Ha.out.2.1.below aa.out) (Hb.out.2.1.below aa.out) dx dy xq hmn la.1 la.2 lb.1 lb.2 s1 (by rw[Ex.out,Ey.out];have:=H.out;have:=H2.out;omega) (by rw[Ex.out,Ey.out];exact H3.out)).mono ?_;rintro e w5 ⟨A1,n1,c1,rfl,f1,ac⟩;rw[Ex.out,Ey.out] at f1;have F1:=Lib.hid f1;have ae:Hid (Below w1.heap.size w1 w5):=aa.out.trans (ac.mono aa.out.size);clear f1
 go_wp2_with fail
 refine(combine_any _ _ _ _ _ _ _ _ c' d' _ (Ha.out.2.1.below ae.out) (Hb.out.2.1.below ae.out) dx dy xq hmn lc.1 lc.2 ld.1 ld.2 s2 (by rw[Ex.out,Ey.out];exact H.out) (by rw[Ex.out,Ey.out];have:=H2.out;have:=H3.out;omega)).mono ?_;rintro e w6 ⟨A2,n2,c2,rfl,f2,ab⟩;rw[Ex.out,Ey.out] at f2;have F2:=Lib.hid f2;have HB6:=Lib.hid ab;clear f2 ac ab
 go_wp2
 go_ret2
 have h1:=H.out;have h2:=H2.out;have h3:=H3.out;have h4:=H4.out;have hs:=aa.out.size;have hs5:=ae.out.size;refine⟨A1,n1,c1,A2,n2,c2,(a*X+b*Y).toNat,(c'*X+d'*Y).toNat,rfl,(F1.out.mono xq).below HB6.out,F2.out.mono xq,by omega,by omega,by omega,?_,ae.out.trans (HB6.out.mono hs5)⟩;have:=gcd_nat H5.out xq xq xq xq
 simpa using this
def sval(w:World):Value→Nat
 | .slice (some a) n _=>(Nt.val ((List.range n).map fun i=>match w.cell? ⟨a.block,a.off+i,none⟩ with|some (.int _ x)=>x|_=>0)).toNat
 | _=>0
theorem sval_slr{w:World}{A:Option Addr}{n c:Nat}{l:List Int}(h:SlR .u32 w A n c l):sval w (.slice A n c)=(Nt.val l).toNat:=by
 rcases Nat.eq_zero_or_pos n with h0|h0
 ·subst h0;have:l=[]:=List.eq_nil_of_length_eq_zero h.1;subst this
  rcases A with _|a<;>simp[sval,Nt.val]
 obtain⟨b,o,rfl,hb,hc⟩:=h.2.2.2 h0;show(Nt.val ((List.range n).map fun i=>match w.cell? ⟨b,o+i,none⟩ with|some (.int _ x)=>x|_=>0)).toNat=_
 congr 2
 apply List.ext_getElem
 ·simp[h.1]
 intro i h1 h2
 simp at h1
 simp only[List.getElem_map,List.getElem_range]
 rw[hc i h1]
 simp[h2]
namespace Nt
theorem two_digits{p:Nat}(h:p<18446744073709551616):strip [((p%4294967296:Nat):Int),((p/4294967296:Nat):Int)]=digits p:=by
 have hd:Dig [((p%4294967296:Nat):Int),((p/4294967296:Nat):Int)]:=Dig.cons xq (Dig.cons xq Dig.nil);rw[zxs hd]
 congr 1
 simp[val];omega
theorem digits_two{v:Nat}(h:(digits v).length≤2):v<18446744073709551616:=by
 have h1:=val_lt (zyj v);have h2:=pw_mono h;rw[zyi] at h1
 simp[pw] at h2
 omega
end Nt
theorem Gcd_any(A B:Option Addr)(n c m d:Nat)(a b:List Int)(w:World)(ha:SlR .u32 w A n c a)(hb:SlR .u32 w B m d b)(da:Dig a)(db:Dig b)(hn:n≤1000000000)(hm:m≤1000000000):
  qyc 164 #[.slice A n c,.slice B m d] w fun e w'=>∃A' n' c',e=.returned (.slice A' n' c')∧NatF w w' A' n' c' (Nat.gcd (Nt.val a).toNat (Nt.val b).toNat)∧Below w.heap.size w w':=by
 have l1:Hid ((digits (Nt.val a).toNat).length≤n):=by rw[←zxs da,←ha.1];exact zyh a
 have l2:Hid ((digits (Nt.val b).toNat).length≤m):=by rw[←zxs db,←hb.1];exact zyh b
 go_enter Tryz.func164,Tryz.ntmps164
 go_wp2_with fail
 refine(Trim_any _ _ _ _ _ ha da hn).mono ?_;rintro e w1 ⟨A1,n1,c1,rfl,f1,b1⟩
 go_wp2_with fail
 refine(Trim_any _ _ _ _ _ (hb.below b1) db hm).mono ?_;rintro e w2 ⟨A2,n2,c2,rfl,f2,b2⟩;have g1:NatF w w2 A1 n1 c1 (Nt.val a).toNat:=f1.below b2;have g2:NatF w w2 A2 n2 c2 (Nt.val b).toNat:=f2.mono b1.size;have hB:Below w.heap.size w w2:=b1.trans (b2.mono b1.size);have ac:n1≤1000000000:=by have:=f1.1;have:=l1.out;omega
 have ad:n2≤1000000000:=by have:=f2.1;have:=l2.out;omega
 clear f1 f2 b1 b2 ha hb l1 l2 da db;obtain⟨X,hX⟩:∃X,X=(Nt.val a).toNat:=⟨_,rfl⟩
 obtain⟨Y,hY⟩:∃Y,Y=(Nt.val b).toNat:=⟨_,rfl⟩
 obtain⟨G,hG⟩:∃G,G=Nat.gcd (Nt.val a).toNat (Nt.val b).toNat:=⟨_,rfl⟩
 have HG:=Lib.hid hG;have ab:Hid (Nat.gcd X Y=G):=by show _=_;rw[hX,hY,hG]
 rw[←hX] at g1;rw[←hY] at g2;have G1:=Lib.hid g1;have G2:=Lib.hid g2;have HB:=Lib.hid hB;clear hX hY hG g1 g2 hB
 go_wp2_with fail
 refine(Compare_any _ _ _ _ _ _ _ _ _ G1.out.2.1 G2.out.2.1 (zyj X) (zyj Y)).mono ?_;rintro e w3 ⟨rfl,q,rfl⟩;rw[zyi,zyi];have K1:Hid (NatF w (w2.drewN q) A1 n1 c1 X):=G1.out;have K2:Hid (NatF w (w2.drewN q) A2 n2 c2 Y):=G2.out;have KB:Hid (Below w.heap.size w (w2.drewN q)):=⟨HB.out.os,HB.out.tape,HB.out.output,HB.out.size,HB.out.block⟩
 generalize w2.drewN q=w3 at *;clear G1 G2 HB
 go_upto_if 18 with (fail)
 go_cut [5,6] (fun s5 s6 wx=>∃A1 n1 c1 A2 n2 c2 X Y,s5=.slice A1 n1 c1∧s6=.slice A2 n2 c2∧Hid (NatF w wx A1 n1 c1 X)∧Hid (NatF w wx A2 n2 c2 Y)∧Hid (Below w.heap.size w wx)∧n1≤1000000000∧n2≤1000000000∧Hid (Y≤X)∧Hid (Nat.gcd X Y=G))
 case first=>
  by_cases hlt:X<Y
  ·have hc:cmpS X Y=-1:=by unfold cmpS;rw[if_pos xq]
   have Hle:Hid (X≤Y):=by show _≤_;omega
   clear hlt
   go_wp2_with fail
   go_meet
   exact⟨A2,n2,c2,A1,n1,c1,Y,X,rfl,rfl,K2,K1,KB,ad,ac,Hle,by show _=_;rw[Nat.gcd_comm];exact ab.out⟩
  have hc:0≤cmpS X Y:=by unfold cmpS;rw[if_neg xq];split<;>omega
  have Hle:Hid (Y≤X):=by show _≤_;omega
  clear hlt
  go_wp2_with fail
  go_meet
  exact⟨A1,n1,c1,A2,n2,c2,X,Y,rfl,rfl,K1,K2,KB,ac,ad,Hle,ab⟩
 case rest=>
  clear K1 K2 KB ab ac ad;obtain⟨A1,n1,c1,A2,n2,c2,X,Y,rfl,rfl,K1,K2,KB,ac,ad,Hle,ab⟩:=hcut
  go_wp2
  go_loopw [5,6] (fun s5 s6 wx=>∃A1 n1 c1 A2 n2 c2 X Y,s5=.slice A1 n1 c1∧s6=.slice A2 n2 c2∧Hid (NatF w wx A1 n1 c1 X)∧Hid (NatF w wx A2 n2 c2 Y)∧Hid (Below w.heap.size w wx)∧n1≤1000000000∧n2≤1000000000∧Hid (Y≤X)∧Hid (Nat.gcd X Y=G)) (fun _ s6 wx=>sval wx s6)
  case atStart=>exact⟨A1,n1,c1,A2,n2,c2,X,Y,rfl,rfl,K1,K2,KB,ac,ad,Hle,ab⟩
  case round=>
   clear K1 K2 KB Hle ab ac ad;obtain⟨A1,n1,c1,A2,n2,c2,X,Y,rfl,rfl,K1,K2,KB,ac,ad,Hle,ab⟩:=hrel
   by_cases h2:2<n2
   ·have h2':(2:Int)<n2:=by omega
    go_wp2_with fail
    refine(shorten_any w _ _ _ _ _ _ _ X Y K1.out K2.out KB.out.size ac h2 Hle.out).mono ?_;rintro e w5 ⟨A3,n3,c3,A4,n4,c4,X',Y',rfl,k1,k2,k3,k4,k5,k6,k7⟩;have E1:=Lib.hid k1;have E2:=Lib.hid k2;have E3:=Lib.hid k3;have E4:=Lib.hid k4;have E6:=Lib.hid k6;have E7:=Lib.hid k7;have j1:n3≤1000000000:=by have e1:=k1.1;have e2:=K1.out.1;have:=zxk k5;omega
    have j2:n4≤1000000000:=by have e1:=k2.1;have e2:=K2.out.1;have:=zxk (Nat.le_of_lt k4);omega
    have Hms:Hid (sval w5 (.slice A4 n4 c4)<sval wr (.slice A2 n2 c2)):=by
     show _<_;rw[sval_slr k2.2.1,sval_slr K2.out.2.1,zyi,zyi]
     omega
    clear k1 k2 k3 k4 k5 k6 k7
    go_wp2
    go_roundw
    case rel=>exact⟨A3,n3,c3,A4,n4,c4,X',Y',rfl,rfl,E1,E2,KB.out.trans (E7.out.mono KB.out.size),j1,j2,E3,by show _=_;rw[E6.out];exact ab.out⟩
    case measure=>exact Hms.out
   have h2':¬(2:Int)<n2:=by omega
   rcases Nat.eq_zero_or_pos n2 with h0|h0
   ·subst h0
    have hY:Hid (X=G):=by
     have e1:=K2.out.1
     have:Y=0:=by
      rcases Nat.eq_zero_or_pos Y with h|h
      ·exact h
      have:=zwo h;omega
     have e2:=ab.out;rw[this,Nat.gcd_zero_right] at e2;exact e2
    go_wp2
    go_ret
    refine⟨A1,n1,c1,rfl,?_,KB.out⟩;rw[←HG.out,←hY.out];exact K1.out
   have h0':((n2:Int)==0)=false:=by rw[beq_eq_false_iff_ne];omega
   go_wp2_with fail
   refine(divide_any _ _ _ _ _ _ _ _ _ K1.out.2.1 K2.out.2.1 (zyj X) (zyj Y) (zxm X) (zxm Y) ac h0).mono ?_;rintro e w5 ⟨A3,n3,c3,A4,n4,c4,rfl,f1,f2,hbl⟩
   have hYp:0<Y:=by
    rcases Nat.eq_zero_or_pos Y with h|h
    ·have e1:=K2.out.1;rw[h,zxa] at e1;simp at e1;omega
    exact h
   rw[zyi,zyi,←Int.natCast_emod,Int.toNat_natCast] at f2;have hr:=Nat.mod_lt X hYp;have ah:Y<18446744073709551616:=digits_two (by rw[←K2.out.1];omega);have F2:=Lib.hid f2;have ai:n4≤2:=by rw[f2.1];have:=zxk (Nat.le_of_lt hr);rw[←K2.out.1] at this;omega
   have hG':Hid (Nat.gcd Y (X%Y)=G):=by show _=_;rw[←ab.out,Nat.gcd_comm X Y,Nat.gcd_rec Y X,Nat.gcd_comm]
   have aa:Hid (Below w.heap.size w w5):=KB.out.trans (hbl.mono KB.out.size);have HK2:=Lib.hid (K2.out.2.1.below hbl);clear f1 f2 hbl
   go_wp2_with fail
   refine(small_any _ _ _ _ _ HK2.out (zyj Y) xq).mono ?_;rintro e w6 ⟨rfl,rfl⟩
   go_wp2_with fail
   refine(small_any _ _ _ _ _ F2.out.2.1 (zyj _) ai).mono ?_;rintro e w6 ⟨rfl,rfl⟩;rw[zyi,zyi];obtain⟨R,hR⟩:∃R,R=X%Y:=⟨_,rfl⟩
   rw[←hR] at hG' hr ⊢;clear hR F2 HK2 K1 K2 Hle ab h2 h2' h0 h0'
   go_wp2
   obtain⟨wo,rfl⟩:∃wo:World,wo=wr:=⟨_,rfl⟩
   go_loopw [9,10] (fun s9 ae wr=>∃P Q:Nat,P<18446744073709551616∧Q<18446744073709551616∧s9=.int .u64 P∧ae=.int .u64 Q∧Hid (Nat.gcd P Q=G)∧Hid (Below w.heap.size w wr)) (fun _ ae _=>(intOf ae).toNat)
   case atStart=>exact⟨Y,R,ah,by omega,rfl,rfl,hG',aa⟩
   case round=>
    clear hG' aa;obtain⟨P,Q,hP,hQ,rfl,rfl,hG',aa⟩:=hrel
    rcases Nat.eq_zero_or_pos Q with hq|hq
    ·subst hq;have hPG:Hid (P=G):=by have:=hG'.out;rw[Nat.gcd_zero_right] at this;exact this
     have hs:SlR .u32 (wr.alloc (.cells #[.int .u32 ((P:Int)%4294967296),.int .u32 ((P:Int)/4294967296)] 77)) (some ⟨wr.heap.size,0,none⟩) 2 2 [(P:Int)%4294967296,(P:Int)/4294967296]:=(KBlk.new wr 77 [(P:Int)%4294967296,(P:Int)/4294967296]).slr_all rfl qyl xw;have Hs:=Lib.hid hs
     have e2:strip [(P:Int)%4294967296,(P:Int)/4294967296]=digits P:=by
      have:=two_digits (p:=P) hP
      simpa using this
     have hf:=zwb (w0:=w) (m:=2) (KBlk.new wr 77 [(P:Int)%4294967296,(P:Int)/4294967296]) rfl xw (Dig.cons xq (Dig.cons xq Dig.nil)) (by have:=aa.out.size;omega);have e3:(Nt.val [(P:Int)%4294967296,(P:Int)/4294967296]).toNat=P:=by simp[Nt.val];omega
     rw[e3] at hf;have HF:=Lib.hid hf;clear hs e2 hf e3
     go_wp2_with fail
     refine(zwj _ _ _ _ _ Hs.out).mono ?_;rintro e w7 ⟨rfl,rfl⟩
     go_wp2
     go_ret
     refine⟨_,_,_,rfl,?_,aa.out.alloc aa.out.size _⟩;rw[←HG.out,←hPG.out];exact HF.out
    have hqb:((Q:Int)==0)=false:=by rw[beq_eq_false_iff_ne];omega
    have hqn:((Q:Int) != 0)=true:=by rw[bne_iff_ne];omega
    have af:Hid (∀k,Below w.heap.size w (wr.drewN k)):=fun k=>⟨aa.out.os,aa.out.tape,aa.out.output,aa.out.size,aa.out.block⟩
    have ag:Hid (Nat.gcd Q (P%Q)=G):=by show _=_;rw[←hG'.out,Nat.gcd_comm P Q,Nat.gcd_rec Q P,Nat.gcd_comm]
    have hr:=Nat.mod_lt P hq;clear hG' aa
    go_wp2
    go_quiet (fail)
    have HB7:=Lib.hid (af.out nq)
    go_wp2
    go_roundw
    case rel=>exact⟨Q,P%Q,hQ,by omega,rfl,by go_num,ag,HB7⟩
    case measure=>simp[intOf];omega
def OwnF(w0 w:World)(A:Option Addr)(n c v:Nat):Prop:=n=(digits v).length∧OwnK .u32 w w0.heap.size 77 A n c (digits v)
theorem OwnF.nat{w0 w:World}{A:Option Addr}{n c v:Nat}(h:OwnF w0 w A n c v):NatF w0 w A n c v:=
 ⟨h.1,h.2.slr,fun hp=>h.2.ty hp⟩
theorem zxf(A:Option Addr)(n c:Nat)(l:List Int)(w:World)(h:SlR .u32 w A n c l)(da:Dig l)(hn:n≤3000000000):
  qyc 89 #[.slice A n c] w fun e w'=>∃A' n' c',e=.returned (.slice A' n' c')∧OwnF w w' A' n' c' (Nt.val l).toNat∧Below w.heap.size w w':=by
 have hnc:=h.2.1;have hnm:c≤maxLen:=h.2.2.1
 unfold maxLen at hnm
 have hln:Hid (l.length=n):=h.1;have He:=Lib.hid (zxs da);clear da
 go_enter Tryz.func89,Tryz.ntmps89
 go_upto_block 0 with (fail)
 go_cut [3] (fun s3 wx=>∃k:Nat,k≤n∧s3=.int .i64 k∧Hid (l.take k=strip l)∧wx=w)
 case first=>
  go_wp2
  go_loop [3] (fun x=>∃k:Nat,k≤n∧x=.int .i64 k∧Hid (strip l=strip (l.take k))) (fun x=>(intOf x).toNat)
  case atStart=>exact⟨n,Nat.le_refl _,rfl,by show _=_;rw[List.take_of_length_le (by have:=hln.out;omega)]⟩
  case round=>
   obtain⟨k,hk,rfl,hs⟩:=hrel
   rcases k with _|k
   ·have hfin:Hid (l.take 0=strip l):=by have:=hs.out;show _=_;rw[this];rfl
    clear hs
    go_wp2
    go_meet
    exact⟨0,by omega,rfl,hfin,rfl⟩
   obtain⟨b,o,rfl,_,hc⟩:=h.pos (i:=k) xq;have hsn:=Nt.take_snoc l k (by have:=hln.out;omega)
   by_cases h0:l[k]?.getD 0=0
   ·have hs':Hid (strip l=strip (l.take k)):=by
     have:=hs.out;show _=_;rw[this,hsn,h0,strip_snoc_zero]
    rw[h0] at hc;clear hs hsn h0
    go_wp2
    go_round
    case rel=>exact⟨k,by omega,by go_num,hs'⟩
    case measure=>simp[intOf]
   have hfin:Hid (l.take (k+1)=strip l):=by
    have:=hs.out;show _=_;rw[this,hsn,strip_snoc_ne _ h0]
   have hb:(l[k]?.getD 0==0)=false:=by simpa using h0
   clear hs hsn h0
   go_wp2
   go_meet
   exact⟨k+1,hk,rfl,hfin,rfl⟩
 case rest=>
  obtain⟨k,hk,rfl,hfin,rfl⟩:=hcut;have hsl:=h.upto hk;rw[hfin.out] at hsl;have hkl:Hid (k=(strip l).length):=by show _=_;rw[←hfin.out];simp;have:=hln.out;omega
  have hk':(k:Int)≤c:=by omega
  go_wp2_with (at_builtin;refine zxh _ rfl (.const (qyn)) (.tmp 20) _ rfl 77 .u32 4 Tryz.underlying31 zxj wc.heap.size none 0 0 [] rfl ?own A k c (strip l) rfl hsl ?h63 ?hby qyl ?_)
  case own=>exact⟨rfl,rfl,.inl ⟨rfl,rfl⟩⟩
  case h63=>unfold maxLen;omega
  case hby=>omega
  intro A2 c2 w3 aa ab;have Ho:=Lib.hid aa;clear aa
  go_wp2
  go_ret
  refine⟨A2,k,c2,rfl,?_,ab⟩
  unfold OwnF
  rw[←He.out];exact⟨hkl.out,by simpa using Ho.out⟩
theorem rCompare_any(A B:Option Addr)(n c m d:Nat)(a b:List Int)(w:World)(ha:SlR .u32 w A n c a)(hb:SlR .u32 w B m d b)(da:Dig a)(db:Dig b)(hn:n≤2000000000)(hm:m≤2000000000):
  qyc 180 #[.slice A n c,.slice B m d] w fun e w'=>e=.returned (.int .i64 (cmpS (Nt.val a) (Nt.val b)))∧Below w.heap.size w w':=by
 have lx:Hid ((digits (Nt.val a).toNat).length≤n):=by rw[←zxs da,←ha.1];exact zyh a
 have ly:Hid ((digits (Nt.val b).toNat).length≤m):=by rw[←zxs db,←hb.1];exact zyh b
 have a0:=zxc da;have b0:=zxc db
 have hfinal:∀X Y:Nat,X=(Nt.val a).toNat→Y=(Nt.val b).toNat→cmpS (Nt.val a) (Nt.val b)=cmpS (Nt.val (digits X)) (Nt.val (digits Y)):=by
  intro X Y hX hY;rw[zyi,zyi,hX,hY,Int.toNat_of_nonneg a0,Int.toNat_of_nonneg b0]
 have Hfinal:=Lib.hid hfinal;clear hfinal
 go_enter Tryz.func180,Tryz.ntmps180
 go_wp2_with fail
 refine(zxf _ _ _ _ _ ha da xq).mono ?_;rintro e w1 ⟨A1,N,c1,rfl,f1,b1⟩
 go_wp2_with fail
 refine(zxf _ _ _ _ _ (hb.below b1) db xq).mono ?_;rintro e w2 ⟨A2,M,c2,rfl,f2,b2⟩;have hx:=f1.nat.2.1.below b2;have hy:=f2.nat.2.1;have hN:N≤2000000000:=by have:=f1.1;have:=lx.out;omega
 have hM:M≤2000000000:=by have:=f2.1;have:=ly.out;omega
 have eN:=Lib.hid f1.1;have eM:=Lib.hid f2.1;have hB:Hid (Below w.heap.size w w2):=b1.trans (b2.mono b1.size);clear f1 f2 b1 b2 ha hb da db lx ly;obtain⟨X,hX⟩:∃X,X=(Nt.val a).toNat:=⟨_,rfl⟩
 obtain⟨Y,hY⟩:∃Y,Y=(Nt.val b).toNat:=⟨_,rfl⟩
 have ev:=Lib.hid (Hfinal.out X Y hX hY);rw[←hX] at hx eN;rw[←hY] at hy eM;have dx:=Lib.hid (zyj X);have dy:=Lib.hid (zyj Y);have nx:=Lib.hid (zxm X);have ny:=Lib.hid (zxm Y);clear Hfinal hX hY;generalize digits X=x at *;generalize digits Y=y at *;have hxl:=hx.2.1;have hyl:=hy.2.1;have hcm:c1≤maxLen:=hx.2.2.1;have hdm:c2≤maxLen:=hy.2.2.1
 unfold maxLen at hcm hdm
 by_cases hlen:N=M
 ·subst hlen
  go_wp2
  go_loopw [5] (fun v wr=>∃k:Nat,k≤N∧v=.int .i64 ((k:Int)-1)∧Hid (x.drop k=y.drop k)∧Hid (Below w.heap.size w wr)∧Hid (SlR .u32 wr A1 N c1 x)∧Hid (SlR .u32 wr A2 N c2 y)) (fun v _=>(intOf v+1).toNat)
  case atStart=>exact⟨N,Nat.le_refl _,rfl,by show _=_;rw[List.drop_of_length_le (by have:=eN.out;omega),List.drop_of_length_le (by have:=eM.out;omega)],hB,hx,hy⟩
  case round=>
   obtain⟨k,hk,rfl,hdr,hbr,hA,hBB⟩:=hrel;clear hx hy hB
   rcases k with _|k
   ·have hfin:Hid (cmpS (Nt.val a) (Nt.val b)=0):=by
     have h1:=hdr.out;have h2:=ev.out
     simp only[List.drop_zero] at h1
     show _=_;rw[h2,h1];simp[cmpS]
    clear hdr
    go_wp2
    go_ret
    exact⟨by rw[hfin.out];rfl,hbr.out⟩
   obtain⟨b1,o1,rfl,_,ab⟩:=hA.out.pos (i:=k) xq;obtain⟨b2,o2,rfl,_,ad⟩:=hBB.out.pos (i:=k) xq;have hkl:(k:Int)<N:=by omega
   have hQ:Hid (∀k,Below w.heap.size w (wr.drewN k)):=fun k=>⟨hbr.out.os,hbr.out.tape,hbr.out.output,hbr.out.size,hbr.out.block⟩
   have aa:Hid (∀k,SlR .u32 (wr.drewN k) (some ⟨b1,o1,none⟩) N c1 x):=fun k=>hA.out;have ac:Hid (∀k,SlR .u32 (wr.drewN k) (some ⟨b2,o2,none⟩) N c2 y):=fun k=>hBB.out
   by_cases heq:x[k]?.getD 0=y[k]?.getD 0
   ·have hdr':Hid (x.drop k=y.drop k):=by
     have h1:=hdr.out;have e1:=eN.out;have e2:=eM.out;rw[List.getElem?_eq_getElem xq,List.getElem?_eq_getElem xq] at heq;show _=_;rw[List.drop_eq_getElem_cons xq,List.drop_eq_getElem_cons (i:=k) (l:=y) xq,h1]
     congr 1
    rw[heq] at ab;clear heq hdr
    go_wp2
    go_quiet (fail)
    have z1:=Lib.hid (hQ.out nq);have z2:=Lib.hid (aa.out nq);have z3:=Lib.hid (ac.out nq);have c1':(wr.drewN nq).cell? ⟨b1,o1+k,none⟩=some (.int .u32 (y[k]?.getD 0)):=ab;have c2':(wr.drewN nq).cell? ⟨b2,o2+k,none⟩=some (.int .u32 (y[k]?.getD 0)):=ad;generalize wr.drewN nq=wq at *;clear ab ad hQ aa ac hbr hA hBB;have hQ:Hid (∀k,Below w.heap.size w (wq.drewN k)):=fun k=>⟨z1.out.os,z1.out.tape,z1.out.output,z1.out.size,z1.out.block⟩
    have aa:Hid (∀k,SlR .u32 (wq.drewN k) (some ⟨b1,o1,none⟩) N c1 x):=fun k=>z2.out;have ac:Hid (∀k,SlR .u32 (wq.drewN k) (some ⟨b2,o2,none⟩) N c2 y):=fun k=>z3.out
    go_wp2
    go_quiet (fail)
    have z1:=Lib.hid (hQ.out nq);have z2:=Lib.hid (aa.out nq);have z3:=Lib.hid (ac.out nq)
    go_wp2
    go_roundw
    case rel=>exact⟨k,by omega,by go_num,hdr',z1,z2,z3⟩
    case measure=>simp[intOf]
   have hfin:Hid (cmpS (x[k]?.getD 0) (y[k]?.getD 0)=cmpS (Nt.val a) (Nt.val b)):=by
    show _=_;rw[ev.out];exact cmp_at dx.out dy.out k (by have:=eN.out;omega) (by have:=eM.out;omega) hdr.out heq
   clear hdr
   by_cases hlt:x[k]?.getD 0<y[k]?.getD 0
   ·have hv:Hid (cmpS (Nt.val a) (Nt.val b)=-1):=by show _=_;rw[←hfin.out];unfold cmpS;rw[if_pos hlt]
    clear heq
    go_wp2
    go_quiet (fail)
    have z1:=Lib.hid (hQ.out nq)
    go_wp2
    go_ret
    exact⟨by rw[hv.out];rfl,z1.out⟩
   have hv:Hid (cmpS (Nt.val a) (Nt.val b)=1):=by show _=_;rw[←hfin.out];unfold cmpS;rw[if_neg hlt,if_neg heq]
   have hgt:y[k]?.getD 0<x[k]?.getD 0:=by omega
   clear heq
   go_wp2
   go_quiet (fail)
   have z1:=Lib.hid (hQ.out nq);have c1':(wr.drewN nq).cell? ⟨b1,o1+k,none⟩=some (.int .u32 (x[k]?.getD 0)):=ab;have c2':(wr.drewN nq).cell? ⟨b2,o2+k,none⟩=some (.int .u32 (y[k]?.getD 0)):=ad;generalize wr.drewN nq=wq at *;clear ab ad hQ aa ac hbr hA hBB;have hQ:Hid (∀k,Below w.heap.size w (wq.drewN k)):=fun k=>⟨z1.out.os,z1.out.tape,z1.out.output,z1.out.size,z1.out.block⟩
   go_wp2
   go_quiet (fail)
   have z1:=Lib.hid (hQ.out nq)
   go_wp2
   go_ret
   exact⟨by rw[hv.out];rfl,z1.out⟩
 have hb0:((N:Int) != (M:Int))=true:=by rw[bne_iff_ne];omega
 by_cases hlt:N<M
 ·have hv:Hid (cmpS (Nt.val a) (Nt.val b)=-1):=by
   have:=len_lt dx.out dy.out ny.out (by have:=eN.out;have:=eM.out;omega);show _=_;rw[ev.out];unfold cmpS;rw[if_pos this]
  clear hlen
  go_wp2
  go_ret
  exact⟨by rw[hv.out];rfl,hB.out⟩
 have hv:Hid (cmpS (Nt.val a) (Nt.val b)=1):=by
  have:=len_lt dy.out dx.out nx.out (by have:=eN.out;have:=eM.out;omega);show _=_;rw[ev.out];unfold cmpS;rw[if_neg xq,if_neg xq]
 clear hlen
 go_wp2
 go_ret
 exact⟨by rw[hv.out];rfl,hB.out⟩
theorem OwnK.blk{k:IntKind}{w:World}{B:Nat}{t:TypeId}{A:Option Addr}{n c:Nat}{l:List Int}(h:OwnK k w B t A n c l):∀a,A=some a→B≤a.block∧a.block<w.heap.size:=by
 intro a ha
 rcases h.2.2 with ⟨he,_⟩|⟨g,cap,cur,he,hg,hh,_⟩
 ·injection he with e1;rw[e1] at ha;cases ha
 injection he with e1
 rw[e1] at ha
 injection ha with ha
 subst ha;refine⟨hg,?_⟩
 rcases Nat.lt_or_ge g w.heap.size with hlt|hge
 ·exact hlt
 rw[Array.getElem?_eq_none hge] at hh;cases hh
namespace Nt
theorem snoc_val(S:List Int)(x:Int):val (S++[x])=val S+pw S.length*x:=by rw[val_append];simp[val]
theorem add_snoc{S a b:List Int}{i:Nat}{c t:Int}(hl:S.length=i)(h:val S+c*pw i=valTo a i+valTo b i)(ht:t=c+a[i]?.getD 0+b[i]?.getD 0):
  val (S++[t%4294967296])+(t/4294967296)*pw (i+1)=valTo a (i+1)+valTo b (i+1):=by
 rw[snoc_val,zyf,zyf,pw,hl];have e:=Int.mul_ediv_add_emod t 4294967296;generalize t%4294967296=r at *;generalize t/4294967296=q at *
 grind
theorem Dig.snoc{l:List Int}(h:Dig l){x:Int}(hx:0≤x∧x<4294967296):Dig (l++[x]):=h.append (Dig.cons hx Dig.nil)
end Nt
theorem rAdd_any(A B:Option Addr)(n c m d:Nat)(a b:List Int)(w:World)(ha:SlR .u32 w A n c a)(hb:SlR .u32 w B m d b)(da:Dig a)(db:Dig b)(hn:n≤1000000000)(hm:m≤1000000000):
  qyc 146 #[.slice A n c,.slice B m d] w fun e w'=>∃A' n' c',e=.returned (.slice A' n' c')∧NatF w w' A' n' c' (Nt.val a+Nt.val b).toNat∧Below w.heap.size w w':=by
 have hla:=Lib.hid ha.1;have hlb:=Lib.hid hb.1;have Hda:=Lib.hid da;have Hdb:=Lib.hid db;clear da db
 go_enter Tryz.func146,Tryz.ntmps146
 go_wp2
 go_loopw [5,6,7] (fun sv cv iv wr=>∃(i:Nat) (cy:Int) (S:List Int) (A1:Option Addr) (c1:Nat),i≤1000000000∧Hid (i≤n∨i≤m)∧0≤cy∧cy≤1∧sv=.slice A1 i c1∧cv=.int .u64 cy∧iv=.int .i64 i∧OwnK .u32 wr w.heap.size 77 A1 i c1 S∧Hid (Dig S)∧Hid (Nt.val S+cy*pw i=valTo a i+valTo b i)∧Below w.heap.size w wr) (fun _ _ iv _=>n+m-(intOf iv).toNat)
 case atStart=>exact⟨0,0,[],none,0,by omega,.inl (Nat.zero_le _),by omega,by omega,rfl,rfl,rfl,⟨rfl,rfl,.inl ⟨rfl,rfl⟩⟩,Dig.nil,by simp[Hid,zxe,Nt.val],Below.refl _ _⟩
 case round=>
  obtain⟨i,cy,S,A1,c1,hi,him,c0,c1',rfl,rfl,rfl,hk,dS,hv,hbr⟩:=hrel;have hSl:=Lib.hid hk.1
  by_cases hia:i<n
  ·by_cases hib:i<m
   ·skip
    obtain⟨b1,o1,rfl,_,af⟩:=(ha.below hbr).pos hia;have q1:=Hda.out.at i;have hia':(i:Int)<n:=by omega
    obtain⟨b2,o2,rfl,_,ae⟩:=(hb.below hbr).pos hib;have q2:=Hdb.out.at i;have hib':(i:Int)<m:=by omega
    have Hst:=Lib.hid (add_snoc (t:=cy+a[i]?.getD 0+b[i]?.getD 0) hSl.out hv.out (rfl));have hnew:Hid (SlR .u32 (wr.alloc (.cells #[.int .u32 ((cy+a[i]?.getD 0+b[i]?.getD 0)%4294967296)] 77)) (some ⟨wr.heap.size,0,none⟩) 1 1 [(cy+a[i]?.getD 0+b[i]?.getD 0)%4294967296]):=(KBlk.new wr 77 [(cy+a[i]?.getD 0+b[i]?.getD 0)%4294967296]).slr_all rfl qyl xw
    go_wp2_with (at_builtin;refine zxh _ rfl (.tmp 42) (.tmp 45) _ rfl 77 .u32 4 Tryz.underlying31 zxj w.heap.size A1 i c1 S rfl ?own (some ⟨wr.heap.size,0,none⟩) 1 1 [(cy+a[i]?.getD 0+b[i]?.getD 0)%4294967296] rfl ?slr ?h63 ?hby ?hbase ?_)
    case own=>exact hk.below ((Below.refl _ _).alloc qyl _)
    case slr=>exact hnew.out
    case h63=>unfold maxLen;omega
    case hby=>omega
    case hbase=>have:=hbr.size;simp;omega
    intro A2 c2 w3 ab aa;have Ho:=Lib.hid ab;have HB:Hid (Below w.heap.size w w3):=(hbr.alloc hbr.size _).trans aa;clear hnew ab aa hk hv
    go_wp2
    go_roundw
    case rel=>exact⟨i+1,_,_,A2,c2,by omega,.inl xq,by omega,by omega,rfl,rfl,by go_num,Ho.out,dS.out.snoc xq,Hst.out,HB.out⟩
    case measure=>simp[intOf];omega
   obtain⟨b1,o1,rfl,_,af⟩:=(ha.below hbr).pos hia;have q1:=Hda.out.at i;have hia':(i:Int)<n:=by omega
   have e2:b[i]?.getD 0=0:=by rw[List.getElem?_eq_none (by have:=hlb.out;omega)];rfl
   have hib':¬(i:Int)<m:=by omega
   have ac:decide ((i:Int)<m)=false:=by simpa using hib'
   have Hst:=Lib.hid (add_snoc (t:=cy+a[i]?.getD 0) hSl.out hv.out (by rw[e2];omega));clear e2;have hnew:Hid (SlR .u32 (wr.alloc (.cells #[.int .u32 ((cy+a[i]?.getD 0)%4294967296)] 77)) (some ⟨wr.heap.size,0,none⟩) 1 1 [(cy+a[i]?.getD 0)%4294967296]):=(KBlk.new wr 77 [(cy+a[i]?.getD 0)%4294967296]).slr_all rfl qyl xw
   go_wp2_with (at_builtin;refine zxh _ rfl (.tmp 42) (.tmp 45) _ rfl 77 .u32 4 Tryz.underlying31 zxj w.heap.size A1 i c1 S rfl ?own (some ⟨wr.heap.size,0,none⟩) 1 1 [(cy+a[i]?.getD 0)%4294967296] rfl ?slr ?h63 ?hby ?hbase ?_)
   case own=>exact hk.below ((Below.refl _ _).alloc qyl _)
   case slr=>exact hnew.out
   case h63=>unfold maxLen;omega
   case hby=>omega
   case hbase=>have:=hbr.size;simp;omega
   intro A2 c2 w3 ab aa;have Ho:=Lib.hid ab;have HB:Hid (Below w.heap.size w w3):=(hbr.alloc hbr.size _).trans aa;clear hnew ab aa hk hv
   go_wp2
   go_roundw
   case rel=>exact⟨i+1,_,_,A2,c2,by omega,.inl xq,by omega,by omega,rfl,rfl,by go_num,Ho.out,dS.out.snoc xq,Hst.out,HB.out⟩
   case measure=>simp[intOf];omega
  by_cases hib:i<m
  ·skip
   have e1:a[i]?.getD 0=0:=by rw[List.getElem?_eq_none (by have:=hla.out;omega)];rfl
   have hia':¬(i:Int)<n:=by omega
   have ad:decide ((i:Int)<n)=false:=by simpa using hia'
   obtain⟨b2,o2,rfl,_,ae⟩:=(hb.below hbr).pos hib;have q2:=Hdb.out.at i;have hib':(i:Int)<m:=by omega
   have Hst:=Lib.hid (add_snoc (t:=cy+b[i]?.getD 0) hSl.out hv.out (by rw[e1];omega));clear e1;have hnew:Hid (SlR .u32 (wr.alloc (.cells #[.int .u32 ((cy+b[i]?.getD 0)%4294967296)] 77)) (some ⟨wr.heap.size,0,none⟩) 1 1 [(cy+b[i]?.getD 0)%4294967296]):=(KBlk.new wr 77 [(cy+b[i]?.getD 0)%4294967296]).slr_all rfl qyl xw
   go_wp2_with (at_builtin;refine zxh _ rfl (.tmp 42) (.tmp 45) _ rfl 77 .u32 4 Tryz.underlying31 zxj w.heap.size A1 i c1 S rfl ?own (some ⟨wr.heap.size,0,none⟩) 1 1 [(cy+b[i]?.getD 0)%4294967296] rfl ?slr ?h63 ?hby ?hbase ?_)
   case own=>exact hk.below ((Below.refl _ _).alloc qyl _)
   case slr=>exact hnew.out
   case h63=>unfold maxLen;omega
   case hby=>omega
   case hbase=>have:=hbr.size;simp;omega
   intro A2 c2 w3 ab aa;have Ho:=Lib.hid ab;have HB:Hid (Below w.heap.size w w3):=(hbr.alloc hbr.size _).trans aa;clear hnew ab aa hk hv
   go_wp2
   go_roundw
   case rel=>exact⟨i+1,_,_,A2,c2,by omega,.inr xq,by omega,by omega,rfl,rfl,by go_num,Ho.out,dS.out.snoc xq,Hst.out,HB.out⟩
   case measure=>simp[intOf];omega
  have e1:a[i]?.getD 0=0:=by rw[List.getElem?_eq_none (by have:=hla.out;omega)];rfl
  have hia':¬(i:Int)<n:=by omega
  have ad:decide ((i:Int)<n)=false:=by simpa using hia'
  have e2:b[i]?.getD 0=0:=by rw[List.getElem?_eq_none (by have:=hlb.out;omega)];rfl
  have hib':¬(i:Int)<m:=by omega
  have ac:decide ((i:Int)<m)=false:=by simpa using hib'
  have hval:Nt.val (S++[cy])=Nt.val a+Nt.val b:=by
   have h1:=hv.out;rw[zyg a (by have:=hla.out;omega),zyg b (by have:=hlb.out;omega)] at h1;rw[snoc_val,hSl.out,Int.mul_comm (pw i)];exact h1
  have Hval:=Lib.hid hval;have dS2:=Lib.hid (dS.out.snoc (x:=cy) xq);have hnew:Hid (SlR .u32 (wr.alloc (.cells #[.int .u32 cy] 77)) (some ⟨wr.heap.size,0,none⟩) 1 1 [cy]):=(KBlk.new wr 77 [cy]).slr_all rfl qyl xw;clear hval e1 e2
  go_wp2_with (at_builtin;refine zxh _ rfl (.tmp 49) (.tmp 52) _ rfl 77 .u32 4 Tryz.underlying31 zxj w.heap.size A1 i c1 S rfl ?own2 (some ⟨wr.heap.size,0,none⟩) 1 1 [cy] rfl ?slr2 ?h632 ?hby2 ?hbase2 ?_)
  case own2=>exact hk.below ((Below.refl _ _).alloc qyl _)
  case slr2=>exact hnew.out
  case h632=>unfold maxLen;omega
  case hby2=>omega
  case hbase2=>have:=hbr.size;simp;omega
  intro A2 c2 w3 ab aa;have HB:Hid (Below w.heap.size w w3):=(hbr.alloc hbr.size _).trans aa;have Hs:=Lib.hid ab.slr;clear hnew ab aa hk hv
  go_wp2_with fail
  refine(zxf _ _ _ _ _ Hs.out dS2.out xq).mono ?_;rintro e w4 ⟨A3,n3,c3,rfl,f3,ag⟩;have hf:=f3.nat;rw[Hval.out] at hf;have HF:=Lib.hid hf;clear f3 hf
  go_wp2
  go_ret
  exact⟨A3,n3,c3,rfl,HF.out.mono HB.out.size,HB.out.trans (ag.mono HB.out.size)⟩
theorem rSub_any(A B:Option Addr)(n c m d:Nat)(a b:List Int)(w:World)(ha:SlR .u32 w A n c a)(hb:SlR .u32 w B m d b)(da:Dig a)(db:Dig b)(hn:n≤1000000000)(hm:m≤1000000000):
  qyc 147 #[.slice A n c,.slice B m d] w fun e w'=>∃A' n' c',e=.returned (.slice A' n' c')∧NatF w w' A' n' c' (Nt.val a-Nt.val b).toNat∧Below w.heap.size w w':=by
 by_cases hle:Nt.val a<Nt.val b
 ·have hcmp:cmpS (Nt.val a) (Nt.val b)=-1:=by unfold cmpS;rw[if_pos hle]
  have hfin:Hid ((Nt.val a-Nt.val b).toNat=0):=by show _=_;omega
  have Hc:=Lib.hid hcmp;clear hle hcmp
  go_enter Tryz.func147,Tryz.ntmps147
  go_wp2_with fail
  refine(rCompare_any _ _ _ _ _ _ _ _ _ ha hb da db xq xq).mono ?_;rintro e w1 ⟨rfl,ad⟩;rw[Hc.out]
  go_wp2
  go_ret
  refine⟨none,0,0,rfl,?_,ad⟩;rw[hfin.out];exact⟨by rw[zxa];rfl,by rw[zxa];exact SlR.nil _ _ _ (Nat.zero_le _),fun h=>absurd h xq⟩
 have hcmp:0≤cmpS (Nt.val a) (Nt.val b):=by unfold cmpS;rw[if_neg hle];split<;>omega
 obtain⟨s,hs⟩:∃s,s=cmpS (Nt.val a) (Nt.val b):=⟨_,rfl⟩
 have Hs:=Lib.hid hs;have Hle:Hid (Nt.val b≤Nt.val a):=by show _≤_;omega
 have a0:=zxc da;have b0:=zxc db
 have ev:Hid (∀X Y:Nat,X=(Nt.val a).toNat→Y=(Nt.val b).toNat→Nt.val (digits X)=Nt.val a∧Nt.val (digits Y)=Nt.val b):=by
  intro X Y hX hY;rw[zyi,zyi,hX,hY,Int.toNat_of_nonneg a0,Int.toNat_of_nonneg b0];exact⟨rfl,rfl⟩
 have lx:Hid ((digits (Nt.val a).toNat).length≤n):=by rw[←zxs da,←ha.1];exact zyh a
 rw[←hs] at hcmp;clear hle hs
 go_enter Tryz.func147,Tryz.ntmps147
 go_wp2_with fail
 refine(rCompare_any _ _ _ _ _ _ _ _ _ ha hb da db xq xq).mono ?_;rintro e w1 ⟨rfl,ad⟩;rw[←Hs.out];clear Hs
 go_wp2_with fail
 refine(zxf _ _ _ _ _ (hb.below ad) db xq).mono ?_;rintro e w2 ⟨A2,M,c2,rfl,f2,ah⟩;have ae:Below w.heap.size w w2:=ad.trans (ah.mono ad.size)
 go_wp2_with fail
 refine(zxf _ _ _ _ _ (ha.below ae) da xq).mono ?_;rintro e w3 ⟨A1,N,c1,rfl,f1,af⟩;have hB:Below w.heap.size w w3:=ae.trans (af.mono ae.size);have hAy:∀p,A2=some p→p.block<w2.heap.size:=fun p hp=>(f2.2.blk p hp).2;have hy:Hid (SlR .u32 w3 A2 M c2 (digits (Nt.val b).toNat)):=f2.nat.2.1.below af;obtain⟨X,hX⟩:∃X,X=(Nt.val a).toNat:=⟨_,rfl⟩
 obtain⟨Y,hY⟩:∃Y,Y=(Nt.val b).toNat:=⟨_,rfl⟩
 have eN:=Lib.hid f1.1;have eM:=Lib.hid f2.1;have hk:=f1.2;have hws:=ae.size;have Ev:=Lib.hid (ev.out X Y hX hY);have hN:N≤1000000000:=by have:=f1.1;have:=lx.out;omega
 rw[←hX] at eN hk;rw[←hY] at eM hy;have dx:=Lib.hid (zyj X);have dy:=Lib.hid (zyj Y);have ny:=Lib.hid (zxm Y);have nx:=Lib.hid (zxm X)
 have hMN:M≤N:=by
  rw[eN.out,eM.out]
  rcases Nat.lt_or_ge (digits X).length (digits Y).length with h|h
  ·have:=len_lt dx.out dy.out ny.out h;have:=Ev.out;have:=Hle.out
   omega
  exact h
 clear f1 f2 ad ah af ae ha hb da db hX hY ev lx;generalize digits X=x at *;generalize digits Y=y at *;have hkm:=hy.out.2.2.1;have hkm1:=hk.slr.2.2.1;have hkc1:=hk.slr.2.1
 unfold maxLen at hkm hkm1
 rcases Nat.eq_zero_or_pos N with hN0|hN0
 ·subst hN0
  have ai:Hid ((Nt.val a-Nt.val b).toNat=0):=by
   have h1:=Ev.out;have h2:x=[]:=List.eq_nil_of_length_eq_zero eN.out.symm;rw[h2] at h1
   simp only[Nt.val] at h1
   show _=_
   omega
  have Hk:=Lib.hid hk.slr;have Hx:Hid (x=[]):=List.eq_nil_of_length_eq_zero eN.out.symm;have HB:=Lib.hid hB;clear hk hB
  go_wp2
  go_loop [7] (fun iv=>iv=.int .i64 0) (fun _=>0)
  case atStart=>rfl
  case round=>
   subst hrel
   go_wp2_with fail
   refine(zxf _ _ _ _ _ Hk.out dx.out xq).mono ?_;rintro e w4 ⟨A3,n3,c3,rfl,f3,ag⟩;have hf:=f3.nat;rw[Hx.out] at hf;have HF:=Lib.hid hf;clear f3 hf
   go_wp2
   go_ret
   refine⟨A3,n3,c3,rfl,?_,HB.out.trans (ag.mono HB.out.size)⟩;rw[ai.out];exact HF.out.mono HB.out.size
 obtain⟨g,rfl,aj,hg3⟩:=hk.pos hN0;have hgw:w.heap.size≤g:=by omega
 have hkk:OwnK .u32 w3 w2.heap.size 77 (some ⟨g,0,none⟩) N c1 x:=hk;clear hk
 go_wp2
 go_loopw [6,7] (fun cv iv wr=>∃(i:Nat) (bo:Int) (S:List Int),i≤N∧0≤bo∧bo≤1∧cv=.int .u64 bo∧iv=.int .i64 i∧OwnK .u32 wr w2.heap.size 77 (some ⟨g,0,none⟩) N c1 S∧Hid (S.length=N)∧Hid (Dig S)∧Hid (valTo S i+valTo y i=valTo x i+bo*pw i)∧Hid (∀k,i≤k→S[k]?.getD 0=x[k]?.getD 0)∧Hid (SlR .u32 wr A2 M c2 y)∧Below w.heap.size w wr) (fun _ iv _=>N-(intOf iv).toNat)
 case atStart=>exact⟨0,0,x,by omega,by omega,by omega,rfl,rfl,hkk,eN.out.symm,dx,by simp[Hid,zxe],fun _ _=>rfl,hy,hB⟩
 case round=>
  clear hkk hy hB;obtain⟨i,bo,S,hi,c0,c1',rfl,rfl,hk,hS,dS,hv,hsame,hy,hbr⟩:=hrel
  by_cases hin:i<N
  ·have hc1:=hk.cell (i:=i) hin;rw[hsame.out i qyl] at hc1;have hf1:=hk.frozen i;have q1:=dx.out.at i;have hin':(i:Int)<N:=by omega
   by_cases hib:i<M
   ·skip
    obtain⟨b2,o2,rfl,_,hc2⟩:=hy.out.pos hib;have q2:=dy.out.at i;have hib':(i:Int)<M:=by omega
    have Hst:=Lib.hid (sub_step (S:=S) (t:=x[i]?.getD 0-bo-y[i]?.getD 0) (by have:=hS.out;omega) hv.out rfl (by have:=dy.out.at i;omega) (by have:=dy.out.at i;omega))
    by_cases hlt:x[i]?.getD 0<bo+y[i]?.getD 0
    ·have aa:x[i]?.getD 0-bo-y[i]?.getD 0<0:=by omega
     have hst:=Hst.out;rw[if_pos aa,show(x[i]?.getD 0-bo-y[i]?.getD 0)%4294967296=x[i]?.getD 0+4294967296-(bo+y[i]?.getD 0) by omega] at hst;have Hst2:=Lib.hid hst;have ac:0≤x[i]?.getD 0+4294967296-(bo+y[i]?.getD 0):=by omega
     have ab:x[i]?.getD 0+4294967296-(bo+y[i]?.getD 0)<4294967296:=by omega
     clear Hst hst aa
     go_wp2
     go_roundw
     case rel=>exact⟨i+1,_,_,by omega,by omega,by omega,rfl,by go_num,hk.set i _,by have:=hS.out;show _=_;simpa using this,dS.out.set i ⟨ac,ab⟩,Hst2.out,fun k hk'=>by rw[List.getElem?_set_ne xq];exact hsame.out k xq,hy.out.setCell _ (fun p hp=>by have:=hAy p hp;show p.block≠g;omega),hbr.setCell (p:=⟨g,i,none⟩) hgw _⟩
     case measure=>simp[intOf];omega
    have aa:¬x[i]?.getD 0-bo-y[i]?.getD 0<0:=by omega
    have hst:=Hst.out;rw[if_neg aa,show(x[i]?.getD 0-bo-y[i]?.getD 0)%4294967296=x[i]?.getD 0-(bo+y[i]?.getD 0) by omega] at hst;have Hst2:=Lib.hid hst;have ac:0≤x[i]?.getD 0-(bo+y[i]?.getD 0):=by omega
    have ab:x[i]?.getD 0-(bo+y[i]?.getD 0)<4294967296:=by omega
    clear Hst hst aa
    go_wp2
    go_roundw
    case rel=>exact⟨i+1,_,_,by omega,by omega,by omega,rfl,by go_num,hk.set i _,by have:=hS.out;show _=_;simpa using this,dS.out.set i ⟨ac,ab⟩,Hst2.out,fun k hk'=>by rw[List.getElem?_set_ne xq];exact hsame.out k xq,hy.out.setCell _ (fun p hp=>by have:=hAy p hp;show p.block≠g;omega),hbr.setCell (p:=⟨g,i,none⟩) hgw _⟩
    case measure=>simp[intOf];omega
   have e2:y[i]?.getD 0=0:=by rw[List.getElem?_eq_none (by have:=eM.out;omega)];rfl
   have hib':¬(i:Int)<M:=by omega
   have Hst:=Lib.hid (sub_step (S:=S) (t:=x[i]?.getD 0-bo-y[i]?.getD 0) (by have:=hS.out;omega) hv.out rfl (by have:=dy.out.at i;omega) (by have:=dy.out.at i;omega));rw[e2,Int.sub_zero] at Hst;clear e2
   by_cases hlt:x[i]?.getD 0<bo
   ·have aa:x[i]?.getD 0-bo<0:=by omega
    have hst:=Hst.out;rw[if_pos aa,show(x[i]?.getD 0-bo)%4294967296=x[i]?.getD 0+4294967296-(bo) by omega] at hst;have Hst2:=Lib.hid hst;have ac:0≤x[i]?.getD 0+4294967296-(bo):=by omega
    have ab:x[i]?.getD 0+4294967296-(bo)<4294967296:=by omega
    clear Hst hst aa
    go_wp2
    go_roundw
    case rel=>exact⟨i+1,_,_,by omega,by omega,by omega,rfl,by go_num,hk.set i _,by have:=hS.out;show _=_;simpa using this,dS.out.set i ⟨ac,ab⟩,Hst2.out,fun k hk'=>by rw[List.getElem?_set_ne xq];exact hsame.out k xq,hy.out.setCell _ (fun p hp=>by have:=hAy p hp;show p.block≠g;omega),hbr.setCell (p:=⟨g,i,none⟩) hgw _⟩
    case measure=>simp[intOf];omega
   have aa:¬x[i]?.getD 0-bo<0:=by omega
   have hst:=Hst.out;rw[if_neg aa,show(x[i]?.getD 0-bo)%4294967296=x[i]?.getD 0-(bo) by omega] at hst;have Hst2:=Lib.hid hst;have ac:0≤x[i]?.getD 0-(bo):=by omega
   have ab:x[i]?.getD 0-(bo)<4294967296:=by omega
   clear Hst hst aa
   go_wp2
   go_roundw
   case rel=>exact⟨i+1,_,_,by omega,by omega,by omega,rfl,by go_num,hk.set i _,by have:=hS.out;show _=_;simpa using this,dS.out.set i ⟨ac,ab⟩,Hst2.out,fun k hk'=>by rw[List.getElem?_set_ne xq];exact hsame.out k xq,hy.out.setCell _ (fun p hp=>by have:=hAy p hp;show p.block≠g;omega),hbr.setCell (p:=⟨g,i,none⟩) hgw _⟩
   case measure=>simp[intOf];omega
  obtain rfl:i=N:=by omega
  have hval:Nt.val S=Nt.val a-Nt.val b:=by
   have h1:=hv.out;have h2:=Ev.out;have h3:=Hle.out;rw[zyg S (by have:=hS.out;omega),zyg x (by have:=eN.out;omega),zyg y (by have:=eM.out;omega)] at h1;have h5:=val_lt dS.out;have h6:=zxc dS.out;rw[hS.out] at h5
   have h7:bo=0:=by
    rcases(show bo=0∨bo=1 by omega) with h|h
    ·exact h
    rw[h] at h1;omega
   rw[h7] at h1
   omega
  have Hval:=Lib.hid hval;have Hsl:=Lib.hid hk.slr;clear hval hk
  go_wp2_with fail
  refine(zxf _ _ _ _ _ Hsl.out dS.out xq).mono ?_;rintro e w4 ⟨A3,n3,c3,rfl,f3,ag⟩;have hf:=f3.nat;rw[Hval.out] at hf;have HF:=Lib.hid hf;clear f3 hf
  go_wp2
  go_ret
  exact⟨A3,n3,c3,rfl,HF.out.mono hbr.size,hbr.trans (ag.mono hbr.size)⟩
theorem Below.drewN'{B:Nat}{w w':World}(h:Below B w w')(k:Nat):Below B w (w'.drewN k):=⟨h.os,h.tape,h.output,h.size,h.block⟩
theorem rMul_any(A B:Option Addr)(n c m d:Nat)(a b:List Int)(w:World)(ha:SlR .u32 w A n c a)(hb:SlR .u32 w B m d b)(da:Dig a)(db:Dig b)(hn:n≤1000000000)(hm:m≤1000000000):
  qyc 93 #[.slice A n c,.slice B m d] w fun e w'=>∃A' n' c',e=.returned (.slice A' n' c')∧NatF w w' A' n' c' (Nt.val a*Nt.val b).toNat∧Below w.heap.size w w':=by
 have hla:=Lib.hid ha.1;have hlb:=Lib.hid hb.1;have Hda:=Lib.hid da;have Hdb:=Lib.hid db;clear da db
 go_enter Tryz.func93,Tryz.ntmps93
 go_wp2_with (at_make;refine zxg _ rfl (.tmp 14) (.tmp 14) _ rfl 77 .u32 4 Tryz.underlying31 zxj _ _ _ _ (n+m+1) rfl rfl ?L ?C ?b2 ?b3 ?_)
 case L=>show _=_;omega
 case C=>show _=_;omega
 case b2=>omega
 case b3=>unfold maxLen;omega
 intro w2 aa hb2' ae;have ac:Below w.heap.size w w2:=hb2';obtain⟨g,hg⟩:∃g,g=w.heap.size:=⟨_,rfl⟩
 have hgw:w.heap.size≤g:=by omega
 rw[←hg] at aa ⊢;clear ae hg hb2'
 go_wp2
 go_loopw [6] (fun iv wr=>∃(i:Nat) (S:List Int),i≤n∧iv=.int .i64 i∧KBlk .u32 wr g 77 S∧Hid (S.length=n+m+1)∧Hid (Dig S)∧Hid (valTo S (i+m)=valTo a i*Nt.val b)∧Hid (∀k,i+m≤k→S[k]?.getD 0=0)∧Below w.heap.size w wr) (fun iv _=>n-(intOf iv).toNat)
 case atStart=>exact⟨0,_,by omega,rfl,aa,by simp[Hid],Dig.repl _,by show _=_;rw[zxe,Int.zero_mul];unfold valTo;rw[List.take_replicate,val_repl],fun k _=>by simp only[List.getElem?_replicate];split<;>rfl,ac⟩
 case round=>
  obtain⟨i,S,hi,rfl,hk,hS,dS,hv,hz,hbr⟩:=hrel;clear aa ac
  by_cases hin:i<n
  ·have q1:=Hda.out.at i;have hin':(i:Int)<n:=by omega
   obtain⟨xi,hxi⟩:∃xi,xi=a[i]?.getD 0:=⟨_,rfl⟩
   rw[←hxi] at q1;have Hxi:=Lib.hid hxi;clear hxi
   go_wp2
   obtain⟨wo,rfl⟩:∃wo:World,wo=wr:=⟨_,rfl⟩
   go_loopw [7,8] (fun cv jv wr=>∃(j:Nat) (cy:Int) (T:List Int),j≤m∧0≤cy∧cy≤4294967295∧cv=.int .u64 cy∧jv=.int .i64 j∧KBlk .u32 wr g 77 T∧Hid (T.length=n+m+1)∧Hid (Dig T)∧Hid (valTo T (i+j)+cy*pw (i+j)=valTo S (i+j)+xi*(pw i*valTo b j))∧Hid (∀k,i+j≤k→T[k]?.getD 0=S[k]?.getD 0)∧Below w.heap.size w wr) (fun _ jv _=>m-(intOf jv).toNat)
   case atStart=>exact⟨0,0,S,by omega,by omega,by omega,rfl,rfl,hk,hS,dS,by simp[Hid,zxe],fun k _=>rfl,hbr⟩
   case round=>
    obtain⟨j,cy,T,hj,c0,c1,rfl,rfl,hk,hT,dT,hw,hsame,hbr⟩:=hrel
    by_cases hjY:j<m
    ·obtain⟨b1,o1,rfl,_,ad⟩:=(ha.below hbr).pos hin;obtain⟨b2,o2,rfl,_,ab⟩:=(hb.below hbr).pos hjY;rw[←Hxi.out] at ad;have q2:=Hdb.out.at j;have q3:=dT.out.at (i+j);have hc3:=hk.cell (i:=i+j) (by have:=hT.out;omega);have q4:=mul_bd32 q1 q2;obtain⟨yj,hyj⟩:∃yj,yj=b[j]?.getD 0:=⟨_,rfl⟩
     obtain⟨tj,htj⟩:∃tj,tj=T[i+j]?.getD 0:=⟨_,rfl⟩
     have Hst:=Lib.hid (mul_step (t:=cy+(xi*yj+tj)) (by have:=hT.out;omega) hw.out (hsame.out _ qyl) (by rw[hyj,htj];omega));rw[←hyj] at ab q2 q4;rw[←htj] at hc3 q3;have q4a:=q4.1;have q4b:=q4.2;have hjm:(j:Int)<m:=by omega
     have hw1:(i:Int)+(j:Int)<n+m+1:=by omega
     have hkd:Hid (∀k,KBlk .u32 (wr.drewN k) g 77 T):=fun k=>hk;have hbd:Hid (∀k,Below w.heap.size w (wr.drewN k)):=fun k=>Below.drewN' hbr k;clear q4 hyj htj hw
     go_wp2
     go_quiet (fail)
     have hk':=hkd.out nq;have hbr':=Lib.hid (hbd.out nq);generalize wr.drewN nq=wq at *;have hc3':=hk'.cell (i:=i+j) (by have:=hT.out;omega);have hf3:=hk'.frozen (i+j);clear ad ab hc3 hkd hbd hk hbr
     go_wp2
     go_roundw
     case rel=>exact⟨j+1,_,_,by omega,by omega,by omega,rfl,by go_num,hk'.set (i+j) _,by have:=hT.out;show _=_;simpa using this,dT.out.set (i+j) xq,Hst.out,fun k hk'=>by rw[List.getElem?_set_ne xq];exact hsame.out k xq,hbr'.out.setCell (p:=⟨g,i+j,none⟩) hgw _⟩
     case measure=>simp[intOf];omega
    obtain rfl:j=m:=by omega
    have hc3:=hk.cell (i:=i+j) (by have:=hT.out;omega);have hf3:=hk.frozen (i+j)
    have hv':Hid (valTo (T.set (i+j) cy) (i+1+j)=valTo a (i+1)*Nt.val b):=by
     have h1:=hw.out;have h2:=hv.out;have h3:=Hxi.out;show _=_;rw[show i+1+j=i+j+1 by omega,zxl T cy (by have:=hT.out;omega),zyf,←h3];rw[zyg b (by have:=hlb.out;omega)] at h1
     grind
    have hz':Hid (∀k,i+1+j≤k→(T.set (i+j) cy)[k]?.getD 0=0):=fun k hk'=>by
     rw[List.getElem?_set_ne xq,hsame.out k xq];exact hz.out k xq
    clear hv hz hw hsame
    go_wp2
    go_roundw
    case rel=>exact⟨i+1,_,by omega,by go_num,hk.set (i+j) _,by have:=hT.out;show _=_;simpa using this,dT.out.set (i+j) xq,hv',hz',hbr.setCell (p:=⟨g,i+j,none⟩) hgw _⟩
    case measure=>simp[intOf];omega
  obtain rfl:i=n:=by omega
  have hval:Nt.val S=Nt.val a*Nt.val b:=by
   have h1:=hv.out;have h2:=hz.out (i+m) qyl;rw[←zyg S (n:=i+m+1) (by have:=hS.out;omega),zyf,h1,h2,zyg a (by have:=hla.out;omega)];simp
  have Hval:=Lib.hid hval;have Hsl:=Lib.hid (hk.slr_all (n:=i+m+1) (c:=i+m+1) hS.out xq yv);clear hval hk
  go_wp2_with fail
  refine(zxf _ _ _ _ _ Hsl.out dS.out xq).mono ?_;rintro e w4 ⟨A3,n3,c3,rfl,f3,af⟩;have hf:=f3.nat;rw[Hval.out] at hf;have HF:=Lib.hid hf;clear f3 hf
  go_wp2
  go_ret
  exact⟨A3,n3,c3,rfl,HF.out.mono hbr.size,hbr.trans (af.mono hbr.size)⟩
def SmF(w0 w:World)(e:Ending)(a y:Int):Prop:=∃A1 n1 c1,e=.returned (.tuple #[.slice A1 n1 c1,.int .u32 (a%y)])∧NatF w0 w A1 n1 c1 (a/y).toNat∧Below w0.heap.size w0 w
theorem rsmall_any(A:Option Addr)(n c:Nat)(a:List Int)(y:Int)(w:World)(ha:SlR .u32 w A n c a)(da:Dig a)(hy:0<y)(hy1:y<4294967296)(hn:n≤1000000000):
  qyc 185 #[.slice A n c,.int .u32 y] w fun e w'=>SmF w w' e (Nt.val a) y:=by
 have hlen:Hid (a.length=n):=ha.1;have Hda:=Lib.hid da;have hyb:(y==0)=false:=by rw[beq_eq_false_iff_ne];omega
 clear da
 go_enter Tryz.func185,Tryz.ntmps185
 go_wp2_with (at_make;refine zxg _ rfl (.tmp 10) (.tmp 10) _ rfl 77 .u32 4 Tryz.underlying31 zxj _ _ _ _ n rfl rfl ?L ?C ?b2 ?b3 ?_)
 case L=>rfl
 case C=>rfl
 case b2=>omega
 case b3=>unfold maxLen;omega
 intro w2 aa hb2' ac;have ab:Below w.heap.size w w2:=hb2';obtain⟨g,hg⟩:∃g,g=w.heap.size:=⟨_,rfl⟩
 have hgw:w.heap.size≤g:=by omega
 rw[←hg] at aa ⊢;clear ac hg hb2'
 go_wp2
 go_loopw [7,8] (fun rv iv wr=>∃(i:Nat) (r:Int) (Q:List Int),i≤n∧0≤r∧r<y∧rv=.int .u64 r∧iv=.int .i64 ((i:Int)-1)∧KBlk .u32 wr g 77 Q∧Hid (Q.length=n)∧Hid (Dig Q)∧Hid (Nt.val (a.drop i)=Nt.val (Q.drop i)*y+r)∧Below w.heap.size w wr) (fun _ iv _=>(intOf iv+1).toNat)
 case atStart=>exact⟨n,0,_,by omega,by omega,by omega,rfl,rfl,aa,by simp[Hid],Dig.repl _,by have:=hlen.out;show _=_;rw[zwm xq,zwm (by simp)];simp,ab⟩
 case round=>
  obtain⟨i,r,Q,hin,r0,r1,rfl,rfl,hk,hQ,dQ,hv,hbr⟩:=hrel;clear aa ab
  rcases i with _|i
  ·have hv0:=hv.out
   simp only[List.drop_zero] at hv0
   have hdm:=div_of hy hv0 r0 r1;have Hsl:=Lib.hid (hk.slr_all (n:=n) (c:=n) hQ.out xq yv);have Hdm:=Lib.hid hdm;have r2:r<4294967296:=by omega
   clear hv hv0 hdm hk
   go_wp2_with fail
   refine(zxf _ _ _ _ _ Hsl.out dQ.out xq).mono ?_;rintro e w4 ⟨A3,n3,c3,rfl,f3,ae⟩;have hf:=f3.nat;rw[←Hdm.out.1] at hf;have HF:=Lib.hid hf;clear f3 hf
   go_wp2
   go_ret2
   unfold SmF
   rw[Hdm.out.2];exact⟨A3,n3,c3,rfl,HF.out.mono hbr.size,hbr.trans (ae.mono hbr.size)⟩
  obtain⟨b1,o1,rfl,hlt,ad⟩:=(ha.below hbr).pos (i:=i) xq;have hcq:=hk.cell (i:=i) (by have:=hQ.out;omega);have hfq:=hk.frozen i;have hx:=Hda.out.at i;obtain⟨x,hxx⟩:∃x,x=a[i]?.getD 0:=⟨_,rfl⟩
  rw[←hxx] at ad hx;have hbd:=small_bd hy r0 r1 hx.1 hx.2 rfl;have Hst:=Lib.hid (small_step (t:=r*4294967296+x) hy (by have:=hQ.out;omega) (by have:=hlen.out;omega) hv.out (by rw[hxx]));have or1:=or_top r0 xq hx.1 hx.2;have hbd0:=hbd.1;have hbd1:=hbd.2.1;have hin':(i:Int)<n:=by omega
  clear hv hxx
  go_wp2
  go_roundw
  case rel=>exact⟨i,_,_,by omega,hbd.2.2.1,hbd.2.2.2,rfl,by go_num,hk.set i _,by have:=hQ.out;show _=_;simpa using this,dQ.out.set i ⟨hbd0,hbd1⟩,Hst.out,hbr.setCell (p:=⟨g,i,none⟩) hgw _⟩
  case measure=>simp[intOf]
end Go.Proofs.YtcpnfblekhgmgaaGreat

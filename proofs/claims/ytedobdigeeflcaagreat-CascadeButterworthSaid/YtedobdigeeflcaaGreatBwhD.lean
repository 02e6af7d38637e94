/- Parts of the proof: contracts of functions, each walked once, and plain laws. -/
import Derived.Test.YtedobdigeeflcaaGreatBwhC
import Derived.Test.YtedobdigeeflcaaGreatProg
import Derived.KernelRfl
set_option linter.unusedVariables false
set_option maxHeartbeats 8000000
namespace Go.Proofs.YtedobdigeeflcaaGreat
open Nt
namespace Nt
def cmn (x y:Rat):Rat:=if x=0 then absQ y else if y=0 then x else absQ (x / (((x / y).num:Int):Rat))
theorem absQ_ne {x:Rat} (h:x≠0):absQ x≠0:=by unfold absQ;split<;>grind
theorem num_ne {x:Rat} (h:x≠0):((x.num:Int):Rat)≠0:=by
 intro k
 apply h
 have:x.num=0:=Rat.intCast_inj.1 (by rw[k];rfl)
 exact Rat.num_eq_zero.1 this
theorem div_ne {x y:Rat} (hx:x≠0) (hy:y≠0):x / y≠0:=by
 intro k
 apply hx
 have:x=x / y*y:=by grind
 rw[this,k];grind
theorem cmn_ne {x y:Rat} (h:x≠0∨y≠0):cmn x y≠0:=by
 unfold cmn
 by_cases hx:x=0
 ·rw[if_pos hx];exact absQ_ne (by grind)
 rw[if_neg hx]
 by_cases hy:y=0
 ·rw[if_pos hy];exact hx
 rw[if_neg hy]
 exact absQ_ne (div_ne hx (num_ne (div_ne hx hy)))
theorem dl_dvd {a b:Nat} (hb:0<b) (h:a∣b):dl a≤dl b:=dl_mono (Nat.le_of_dvd hb h)
theorem den_pos' (q:Rat):0<q.den:=Nat.pos_of_ne_zero q.den_nz
theorem cmn_mk {x y:Rat} (hx:x≠0) (hy:y≠0):∃g:Int,x / (((x / y).num:Int):Rat)=mkRat g (x.den*y.den)∧g.natAbs∣x.den*y.num.natAbs∧g≠0:=by
 have hxn:x.num≠0:=fun k=>hx (Rat.num_eq_zero.1 k)
 have hyn:y.num≠0:=fun k=>hy (Rat.num_eq_zero.1 k)
 have hxd:(x.den:Rat)≠0:=Ne.symm (Rat.ne_of_lt (Rat.natCast_pos.2 (den_pos' x)))
 have hyd:(y.den:Rat)≠0:=Ne.symm (Rat.ne_of_lt (Rat.natCast_pos.2 (den_pos' y)))
 have ex:x=(x.num:Rat) / (x.den:Rat):=by rw[← Rat.mkRat_eq_div];exact (Rat.mkRat_self x).symm
 have ey:y=(y.num:Rat) / (y.den:Rat):=by rw[← Rat.mkRat_eq_div];exact (Rat.mkRat_self y).symm
 have hxn':(x.num:Rat)≠0:=fun k=>hxn (Rat.intCast_inj.1 (by rw[k];rfl))
 have hyn':(y.num:Rat)≠0:=fun k=>hyn (Rat.intCast_inj.1 (by rw[k];rfl))
 obtain ⟨z,hz⟩:∃z,z=x / y:=⟨_,rfl⟩
 rw[← hz]
 have ab:z≠0:=by rw[hz];exact div_ne hx hy
 have hzn:z.num≠0:=fun k=>ab (Rat.num_eq_zero.1 k)
 have hzn':(z.num:Rat)≠0:=fun k=>hzn (Rat.intCast_inj.1 (by rw[k];rfl))
 have hzd:(z.den:Rat)≠0:=Ne.symm (Rat.ne_of_lt (Rat.natCast_pos.2 (den_pos' z)))
 have ez:z=(z.num:Rat) / (z.den:Rat):=by rw[← Rat.mkRat_eq_div];exact (Rat.mkRat_self z).symm
 -- z.num * (x.den * y.num) = x.num * y.den * z.den
 have cross:(z.num:Rat)*((x.den:Rat)*(y.num:Rat))=(x.num:Rat)*(y.den:Rat)*(z.den:Rat):=by
  have h1:(z.num:Rat) / (z.den:Rat)=((x.num:Rat) / (x.den:Rat)) / ((y.num:Rat) / (y.den:Rat)):=by rw[← ez,hz,← ex,← ey]
  generalize (z.num:Rat)=a at *
  generalize (z.den:Rat)=b at *
  generalize (x.num:Rat)=c at *
  generalize (x.den:Rat)=e at *
  generalize (y.num:Rat)=f at *
  generalize (y.den:Rat)=k at *
  grind
 have crossZ:z.num*((x.den:Int)*y.num)=x.num*(y.den:Int)*(z.den:Int):=by
  have h:(((z.num*((x.den:Int)*y.num):Int)):Rat)=((x.num*(y.den:Int)*(z.den:Int):Int):Rat):=by
   simp only[Rat.intCast_mul]
   exact cross
  exact Rat.intCast_inj.1 h
 -- z.num divides x.num * y.den, as it has nothing in common with z.den
 have hdv:z.den∣x.den*y.num.natAbs:=by
  have h:z.num.natAbs*(x.den*y.num.natAbs)=x.num.natAbs*y.den*z.den:=by
   have:=congrArg Int.natAbs crossZ
   simpa[Int.natAbs_mul] using this
  have hc:Nat.Coprime z.den z.num.natAbs:=by
   have:=z.reduced
   exact Nat.Coprime.symm this
  exact hc.dvd_of_dvd_mul_left ⟨x.num.natAbs*y.den,by rw[h,Nat.mul_comm]⟩
 obtain ⟨g0,aa⟩:=hdv
 have hg0':(x.den:Int)*y.num=(z.den:Int)*(if y.num<0 then -(g0:Int) else (g0:Int)):=by
  have h1:((x.den*y.num.natAbs:Nat):Int)=((z.den*g0:Nat):Int):=by rw[aa]
  rw[Int.natCast_mul,Int.natCast_mul] at h1
  split
  ·rename_i h
   rw[Int.mul_neg,← h1,show ((y.num.natAbs:Nat):Int) = -y.num by omega,Int.mul_neg,Int.neg_neg]
  rename_i h
  rw[← h1,show ((y.num.natAbs:Nat):Int)=y.num by omega]
 refine ⟨if y.num<0 then -(g0:Int) else (g0:Int),?_,?_,?_⟩
 ·have hgR:(x.den:Rat)*(y.num:Rat)=(z.den:Rat)*(((if y.num<0 then -(g0:Int) else (g0:Int)):Int):Rat):=by
   have h:((((x.den:Int)*y.num:Int)):Rat)=(((z.den:Int)*(if y.num<0 then -(g0:Int) else (g0:Int)):Int):Rat):=by rw[hg0']
   simp only[Rat.intCast_mul] at h
   exact h
  rw[Rat.mkRat_eq_div]
  have hden:((x.den*y.den:Nat):Rat)=(x.den:Rat)*(y.den:Rat):=by
   have:(((x.den*y.den:Nat):Int):Rat)=(((x.den:Int)*(y.den:Int):Int):Rat):=by rw[Int.natCast_mul]
   rw[Rat.intCast_mul] at this
   exact this
  rw[hden]
  have hxx:x=(x.num:Rat) / (x.den:Rat):=ex
  generalize (((if y.num<0 then -(g0:Int) else (g0:Int)):Int):Rat)=G at *
  generalize (z.num:Rat)=a at *
  generalize (z.den:Rat)=b at *
  generalize hcn:(x.num:Rat)=c at *
  generalize hce:(x.den:Rat)=e at *
  generalize (y.num:Rat)=f at *
  generalize (y.den:Rat)=k at *
  rw[hxx]
  grind
 ·have:(if y.num<0 then -(g0:Int) else (g0:Int)).natAbs=g0:=by split<;>omega
  rw[this,aa];exact ⟨z.den,Nat.mul_comm _ _⟩
 have hpos:0<g0:=by
  rcases Nat.eq_zero_or_pos g0 with h | h
  ·rw[h,Nat.mul_zero] at aa
   have:=Nat.mul_pos (den_pos' x) (Int.natAbs_pos.2 hyn)
   omega
  exact h
 split<;>omega
theorem rs_cmn (x y:Rat):rs (cmn x y)≤rs x+rs y:=by
 unfold cmn
 by_cases hx:x=0
 ·rw[if_pos hx,rs_abs];omega
 rw[if_neg hx]
 by_cases hy:y=0
 ·rw[if_pos hy];omega
 rw[if_neg hy,rs_abs]
 obtain ⟨g,h1,h2,h3⟩:=cmn_mk hx hy
 rw[h1]
 have hyn:y.num≠0:=fun k=>hy (Rat.num_eq_zero.1 k)
 have b1:dl x.den≤rs x:=by unfold rs;omega
 have b2:dl y.den≤rs y:=by unfold rs;omega
 have b3:dl y.num.natAbs≤rs y:=by unfold rs;omega
 have:=rs_pos x
 refine rs_mk ?_ ?_ xq
 ·have k1:=dl_dvd (Nat.mul_pos (den_pos' x) (Int.natAbs_pos.2 hyn)) h2
  have k2:=dl_mul x.den y.num.natAbs
  omega
 have k2:=dl_mul x.den y.den
 omega
def msr (l:List Rat):Rat:=l.foldl cmn 0
theorem msr_snoc (l:List Rat) (y:Rat):msr (l++[y])=cmn (msr l) y:=by simp[msr]
theorem msr_take {l:List Rat} {i:Nat} (h:i<l.length):msr (l.take (i+1))=cmn (msr (l.take i)) (l.getD i 0):=by
 rw[← Go.Proofs.YtedobdigeeflcaaGreat.take_snoc h,msr_snoc]
theorem msr_ne {l:List Rat} (h:Nrm l) (hl:0<l.length):msr l≠0:=by
 have h2:=nrm_last h (by rintro rfl;simp at hl)
 have h3:=msr_take (l:=l) (i:=l.length - 1) xq
 rw[show l.length - 1+1=l.length by omega,List.take_length] at h3
 rw[h3]
 exact cmn_ne (.inr h2)
end Nt
namespace Nt
def mulQ:List Rat→List Rat→List Rat
 | [],m=>[]
 | a::l,m=>addQ (m.map (a*·)) (0::mulQ l m)
def sh (f:Nat→Rat) (k:Nat):Rat:=if k=0 then 0 else f (k - 1)
theorem co_cons0 (l:List Rat) (k:Nat):co (0::l) k=sh (co l) k:=by
 cases k with
 | zero=>rfl
 | succ k=>rw[zxv];simp[sh]
theorem zxe (a:Rat) (l m:List Rat) (k:Nat):co (mulQ (a::l) m) k=a*co m k+sh (co (mulQ l m)) k:=by
 show co (addQ (m.map (a*·)) (0::mulQ l m)) k=_
 rw[addQ_co,co_map _ zv,co_cons0]
theorem mulQ_nil (m:List Rat) (k:Nat):co (mulQ [] m) k=0:=rfl
theorem mulQ_snoc (l:List Rat) (a:Rat) (m:List Rat) (k:Nat):co (mulQ (l++[a]) m) k=co (mulQ l m) k+(if l.length≤k then a*co m (k - l.length) else 0):=by
 induction l generalizing k with
 | nil =>
  rw[List.nil_append,zxe,mulQ_nil]
  have e:sh (co (mulQ [] m)) k=0:=by unfold sh;split<;>rfl
  rw[e,if_pos (show ([]:List Rat).length≤k from Nat.zero_le _)]
  show _=0+a*co m (k - 0)
  rw[Nat.sub_zero];grind
 | cons b l ih =>
  rw[List.cons_append,zxe,zxe]
  unfold sh
  cases k with
  | zero =>
   rw[if_pos rfl,if_pos rfl,if_neg zv];grind
  | succ k =>
   simp only[Nat.add_one_ne_zero,if_false,Nat.add_sub_cancel,List.length_cons]
   rw[ih]
   by_cases h:l.length≤k
   ·rw[if_pos h,if_pos xq,show k+1 - (l.length+1)=k - l.length by omega];grind
   rw[if_neg h,if_neg xq];grind
def inn (R:List Rat) (i:Nat) (x:Rat) (B:List Rat):Nat→List Rat
 | 0=>R
 | j+1=>(inn R i x B j).set (i+j) (co (inn R i x B j) (i+j)+x*co B j)
def outQ (A B:List Rat) (N:Nat):Nat→List Rat
 | 0=>List.replicate N 0
 | i+1=>inn (outQ A B N i) i (co A i) B B.length
@[simp] theorem inn_len (R:List Rat) (i:Nat) (x:Rat) (B:List Rat) (j:Nat):(inn R i x B j).length=R.length:=by
 induction j with
 | zero=>rfl
 | succ j ih=>simp[inn,ih]
@[simp] theorem outQ_len (A B:List Rat) (N i:Nat):(outQ A B N i).length=N:=by
 induction i with
 | zero=>simp[outQ]
 | succ i ih=>simp[outQ,ih]
theorem co_set {l:List Rat} {i:Nat} (h:i<l.length) (x:Rat) (k:Nat):co (l.set i x) k=if k=i then x else co l k:=by
 unfold co
 simp only[qyg,List.getElem?_set]
 by_cases e:i=k
 ·subst e;simp[h]
 rw[if_neg e,if_neg (Ne.symm e)]
theorem inn_co {R:List Rat} {i:Nat} (x:Rat) (B:List Rat) {j:Nat} (h:i+j≤R.length) (k:Nat):co (inn R i x B j) k=co R k+(if i≤k∧k<i+j then x*co B (k - i) else 0):=by
 induction j with
 | zero=>rw[if_neg xq];show co R k=_;grind
 | succ j ih =>
  have ih:=ih xq
  unfold inn
  rw[co_set yy]
  by_cases e:k=i+j
  ·rw[if_pos e]
   subst e
   rw[ih,if_neg xq,if_pos xq,show i+j - i=j by omega]
   grind
  rw[if_neg e,ih]
  by_cases c:i≤k∧k<i+j
  ·rw[if_pos c,if_pos xq]
  rw[if_neg c,if_neg xq]
theorem outQ_co {A B:List Rat} {N:Nat} (hN:A.length+B.length≤N+1) (hB:0<B.length) {i:Nat} (hi:i≤A.length) (k:Nat):co (outQ A B N i) k=co (mulQ (A.take i) B) k:=by
 induction i generalizing k with
 | zero =>
  rw[List.take_zero,mulQ_nil]
  unfold outQ co
  rw[qyg,List.getElem?_replicate]
  split<;>rfl
 | succ i ih =>
  unfold outQ
  rw[inn_co _ _ (by rw[outQ_len];omega),ih xq,← Go.Proofs.YtedobdigeeflcaaGreat.take_snoc (show i<A.length by omega),mulQ_snoc]
  rw[List.length_take,Nat.min_eq_left xq]
  by_cases c:i≤k∧k<i+B.length
  ·rw[if_pos c,if_pos c.1];rfl
  rw[if_neg c]
  by_cases c2:i≤k
  ·rw[if_pos c2,co_ge (l:=B) xq];grind
  rw[if_neg c2]
theorem mulQ_zero {l:List Rat} (h:∀i,co l i=0) (m:List Rat) (k:Nat):co (mulQ l m) k=0:=by
 induction l generalizing k with
 | nil=>rfl
 | cons a l ih =>
  have ha:a=0:=h 0
  have hl:∀i,co l i=0:=fun i=>by rw[← zxv a];exact h (i+1)
  rw[zxe,ha]
  unfold sh
  split
  ·grind
  rw[ih hl];grind
theorem zwh {l l' m m':List Rat} (h:∀i,co l i=co l' i) (h2:∀i,co m i=co m' i) (k:Nat):co (mulQ l m) k=co (mulQ l' m') k:=by
 induction l generalizing l' k with
 | nil =>
  rw[mulQ_nil,mulQ_zero (fun i=>by rw[← h i,co_nil])]
 | cons a l ih =>
  cases l' with
  | nil=>rw[mulQ_nil,mulQ_zero (fun i=>by rw[h i,co_nil])]
  | cons b l' =>
   have hab:a=b:=h 0
   have hl:∀i,co l i=co l' i:=fun i=>by rw[← zxv a,← zxv b];exact h (i+1)
   rw[zxe,zxe,hab,h2]
   unfold sh
   split
   ·rfl
   rw[ih hl]
theorem mulQ_scale_l (c:Rat) (l m:List Rat) (k:Nat):co (mulQ (l.map (c*·)) m) k=c*co (mulQ l m) k:=by
 induction l generalizing k with
 | nil=>rw[List.map_nil,mulQ_nil];grind
 | cons a l ih =>
  rw[List.map_cons,zxe,zxe]
  unfold sh
  split
  ·grind
  rw[ih];grind
theorem mulQ_scale_r (c:Rat) (l m:List Rat) (k:Nat):co (mulQ l (m.map (c*·))) k=c*co (mulQ l m) k:=by
 induction l generalizing k with
 | nil=>rw[mulQ_nil,mulQ_nil];grind
 | cons a l ih =>
  rw[zxe,zxe,co_map _ zv]
  unfold sh
  split
  ·grind
  rw[ih];grind
theorem mul_parts {l m:List Rat} {s t:Rat} (hs:s≠0) (ht:t≠0) (hl:0<l.length) (hm:0<m.length):trimQ ((outQ (l.map (· / s)) (m.map (· / t)) (l.length+m.length - 1) l.length).map (· * (s*t)))=trimQ (mulQ l m):=by
 apply trim_ext
 intro k
 rw[co_map _ zv,outQ_co yy (by simpa using hm) zv]
 rw[show (l.map (· / s)).take l.length=l.map (· / s) by rw[List.take_of_length_le zv]]
 have e1:l.map (· / s)=l.map ((1 / s)*·):=by congr 1;funext x;grind
 have e2:m.map (· / t)=m.map ((1 / t)*·):=by congr 1;funext x;grind
 rw[e1,e2,mulQ_scale_l,mulQ_scale_r]
 grind
theorem mul_trim (l m:List Rat):trimQ (mulQ (trimQ l) (trimQ m))=trimQ (mulQ l m):=trim_ext fun k=>zwh (trim_co l) (trim_co m) k
theorem mulQ_zero_r {m:List Rat} (h:∀i,co m i=0) (l:List Rat) (k:Nat):co (mulQ l m) k=0:=by
 have:=mulQ_scale_r 0 l m k
 rw[Rat.zero_mul] at this
 rw[← this]
 exact zwh (fun _=>rfl) (fun i=>by rw[co_map _ zv,h];simp) k
theorem mul_nil {l m:List Rat} (h:trimQ l=[]∨trimQ m=[]):trimQ (mulQ l m)=[]:=by
 rw[zxz]
 intro k
 rcases h with h | h
 ·exact mulQ_zero (zxz.1 h) m k
 exact mulQ_zero_r (zxz.1 h) l k
def kk (W t:Nat):Nat:=t*W+2
theorem kk_succ (W t:Nat):kk W (t+1)=kk W t+W:=by unfold kk;rw[Nat.add_mul];omega
theorem kk_mono {W W' t t':Nat} (h:W≤W') (h2:t≤t'):kk W t≤kk W' t':=by
 unfold kk
 have:=Nat.mul_le_mul h2 h
 omega
def spK (n K:Nat):Nat:=n*K+2
theorem spK_mono {n n' K K':Nat} (h:n≤n') (h2:K≤K'):spK n K≤spK n' K':=by
 unfold spK
 have:=Nat.mul_le_mul h h2
 omega
def mlK (n m K M:Nat):Nat:=kk ((K+spK n K)+(M+spK m M)+1) (n*m)+(spK n K+spK m M)
theorem mlK_mono {n n' m m' K K' M M':Nat} (h1:n≤n') (h2:m≤m') (h3:K≤K') (h4:M≤M'):mlK n m K M≤mlK n' m' K' M':=by
 have a:=spK_mono h1 h3
 have b:=spK_mono h2 h4
 have c:=kk_mono (W:=(K+spK n K)+(M+spK m M)+1) (W':=(K'+spK n' K')+(M'+spK m' M')+1) xq (Nat.mul_le_mul h1 h2)
 unfold mlK
 omega
end Nt
namespace Nt
def Wh (x:Rat) (C:Nat):Prop:=∃z:Int,x=(z:Rat)∧z.natAbs≤2^C
def WhL (l:List Rat) (C:Nat):Prop:=∀i,Wh (co l i) C
def dg (C:Nat):Nat:=C / 32+1
theorem dg_mono {A C:Nat} (h:A≤C):dg A≤dg C:=by unfold dg;omega
theorem Wh.more {x:Rat} {A C:Nat} (h:Wh x A) (k:A≤C):Wh x C:=by
 obtain ⟨z,e,b⟩:=h
 exact ⟨z,e,Nat.le_trans b (Nat.pow_le_pow_right xq k)⟩
theorem Wh.zero (C:Nat):Wh 0 C:=⟨0,rfl,Nat.zero_le _⟩
theorem Wh.mul {x y:Rat} {A B:Nat} (h:Wh x A) (k:Wh y B):Wh (x*y) (A+B):=by
 obtain ⟨z,rfl,b⟩:=h
 obtain ⟨v,rfl,c⟩:=k
 exact ⟨z*v,by rw[Rat.intCast_mul],by rw[Int.natAbs_mul,Nat.pow_add];exact Nat.mul_le_mul b c⟩
theorem Wh.add {x y:Rat} {A:Nat} (h:Wh x A) (k:Wh y A):Wh (x+y) (A+1):=by
 obtain ⟨z,rfl,b⟩:=h
 obtain ⟨v,rfl,c⟩:=k
 exact ⟨z+v,by rw[Rat.intCast_add],by rw[Nat.pow_succ];omega⟩
theorem pwTwo (k:Nat):pw k=((2^(32*k):Nat):Int):=by
 induction k with
 | zero=>rfl
 | succ k ih =>
  rw[show 32*(k+1)=32*k+32 by omega,Nat.pow_add,Int.natCast_mul,← ih]
  show 4294967296*pw k=_
  rw[Int.mul_comm];rfl
def mulN (n:Nat) (l:List Rat) (q:Rat):List Rat:=(List.range l.length).map fun i=>if i<n then co l i*q else co l i
@[simp] theorem mulN_len (n:Nat) (l:List Rat) (q:Rat):(mulN n l q).length=l.length:=by simp[mulN]
theorem list_ext {l m:List Rat} (hl:l.length=m.length) (h:∀i,co l i=co m i):l=m:=by
 apply List.ext_getElem? 
 intro i
 have:=h i
 unfold co at this
 rw[qyg,qyg] at this
 by_cases hi:i<l.length
 ·rw[List.getElem?_eq_getElem hi,List.getElem?_eq_getElem xq] at this ⊢
  simpa using this
 rw[List.getElem?_eq_none xq,List.getElem?_eq_none xq]
def subN (a:Nat) (c:Rat) (q t:List Rat):Nat→List Rat
 | 0=>t
 | j+1=>(subN a c q t j).set (a+j) ((subN a c q t j).getD (a+j) 0 - c*q.getD j 0)
@[simp] theorem subN_len (a:Nat) (c:Rat) (q t:List Rat) (j:Nat):(subN a c q t j).length=t.length:=by
 induction j with
 | zero=>rfl
 | succ j ih=>simp[subN,ih]
structure DivR (p q s t:List Rat) (f:Rat):Prop where
 f0:f≠0
 eq:∀i,f*co p i=co (mulQ s q) i+co t i
 lt:t.length<q.length
 tl:t.length≤p.length
 sl:s.length≤p.length+1
end Nt
namespace Nt
structure Pol where
 l:List Rat
 h:Nrm l
namespace Pol
def mk' (l:List Rat):Pol:=⟨trimQ l,trim_nrm l⟩
def c (p:Pol) (i:Nat):Rat:=co p.l i
theorem mk_c (l:List Rat) (i:Nat):(mk' l).c i=co l i:=trim_co l i
theorem ext {p q:Pol} (h:∀i,p.c i=q.c i):p=q:=by
 obtain ⟨l,hl⟩:=p
 obtain ⟨m,hm⟩:=q
 have e:trimQ l=trimQ m:=trim_ext h
 unfold Nrm at hl hm
 rw[hl,hm] at e
 subst e;rfl
theorem mk_eq {l m:List Rat}:mk' l=mk' m↔trimQ l=trimQ m:=⟨fun h=>congrArg Pol.l h,fun h=>by unfold mk';simp[h]⟩
theorem mk_l (p:Pol):mk' p.l=p:=ext fun i=>mk_c _ i
def C (a:Rat):Pol:=mk' [a]
instance (n:Nat):OfNat Pol n:=⟨C (n:Rat)⟩
instance:Add Pol:=⟨fun p q=>mk' (addQ p.l q.l)⟩
instance:Mul Pol:=⟨fun p q=>mk' (mulQ p.l q.l)⟩
instance:Neg Pol:=⟨fun p=>mk' (negQ p.l)⟩
instance:Sub Pol:=⟨fun p q=>p + -q⟩
def X:Pol:=mk' [0,1]
theorem c_add (p q:Pol) (i:Nat):(p+q).c i=p.c i+q.c i:=(mk_c _ i).trans (addQ_co _ _ i)
theorem c_neg (p:Pol) (i:Nat):(-p).c i = -p.c i:=(mk_c _ i).trans (negQ_co _ i)
theorem c_C (a:Rat) (i:Nat):(C a).c i=if i=0 then a else 0:=by
 unfold C
 rw[mk_c]
 cases i with
 | zero=>rfl
 | succ i=>rw[zxv,co_nil,if_neg xq]
theorem c_zero (i:Nat):(0:Pol).c i=0:=by
 have h:(0:Pol).c i=if i=0 then (0:Rat) else 0:=c_C 0 i
 rw[h];split<;>rfl
theorem zero_l:(0:Pol).l=[]:=zxz.2 fun i=>by
 have:=c_zero i
 unfold c at this
 show co [((0:Nat):Rat)] i=0
 rw[← trim_co];exact this
theorem mk_add (l m:List Rat):mk' (addQ l m)=mk' l+mk' m:=ext fun i=>by rw[mk_c,addQ_co,c_add,mk_c,mk_c]
theorem mk_mul (l m:List Rat):mk' (mulQ l m)=mk' l*mk' m:=ext fun i=>by
 show _=(mk' (mulQ (trimQ l) (trimQ m))).c i
 rw[mk_c,mk_c]
 exact zwh (fun i=>(trim_co l i).symm) (fun i=>(trim_co m i).symm) i
theorem c_mul (p q:Pol) (i:Nat):(p*q).c i=co (mulQ p.l q.l) i:=mk_c _ i
theorem mk_cons (a:Rat) (l:List Rat) (i:Nat):(mk' (a::l)).c i=if i=0 then a else (mk' l).c (i - 1):=by
 rw[mk_c]
 cases i with
 | zero=>rfl
 | succ i=>rw[zxv,if_neg xq,mk_c];rfl
theorem mulQ_consR (l:List Rat) (b:Rat) (m:List Rat) (k:Nat):co (mulQ l (b::m)) k=b*co l k+sh (co (mulQ l m)) k:=by
 induction l generalizing k with
 | nil =>
  rw[mulQ_nil,co_nil]
  have e:sh (co (mulQ [] m)) k=0:=by unfold sh;split<;>rfl
  rw[e];grind
 | cons a l ih =>
  rw[zxe]
  cases k with
  | zero=>unfold sh;rw[if_pos rfl,if_pos rfl,co_zero,co_zero];grind
  | succ k =>
   have e1:sh (co (mulQ l (b::m))) (k+1)=b*co l k+sh (co (mulQ l m)) k:=by
    unfold sh;rw[if_neg xq,Nat.add_sub_cancel];exact ih k
   have e2:sh (co (mulQ (a::l) m)) (k+1)=a*co m k+sh (co (mulQ l m)) k:=by
    unfold sh;rw[if_neg xq,Nat.add_sub_cancel];exact zxe a l m k
   rw[e1,e2,zxv,zxv];grind
theorem mulQ_comm (l m:List Rat) (k:Nat):co (mulQ l m) k=co (mulQ m l) k:=by
 induction l generalizing k with
 | nil =>
  rw[mulQ_nil]
  exact (mulQ_zero_r (m:=[]) (fun i=>co_nil i) m k).symm
 | cons a l ih =>
  rw[zxe,mulQ_consR]
  have e:sh (co (mulQ l m)) k=sh (co (mulQ m l)) k:=by unfold sh;split;rfl;exact ih _
  rw[e]
theorem mulQ_add (l l' m:List Rat) (k:Nat):co (mulQ (addQ l l') m) k=co (mulQ l m) k+co (mulQ l' m) k:=by
 induction m generalizing k with
 | nil =>
  rw[mulQ_zero_r (fun i=>co_nil i),mulQ_zero_r (fun i=>co_nil i),mulQ_zero_r (fun i=>co_nil i)];exact (Rat.add_zero 0).symm
 | cons b m ih =>
  rw[mulQ_consR,mulQ_consR,mulQ_consR,addQ_co]
  cases k with
  | zero=>unfold sh;rw[if_pos rfl,if_pos rfl,if_pos rfl];grind
  | succ k =>
   have e:∀x:List Rat,sh (co x) (k+1)=co x k:=fun x=>by unfold sh;rw[if_neg xq,Nat.add_sub_cancel]
   rw[e,e,e,ih k];grind
theorem mulQ_assoc (l m n:List Rat) (k:Nat):co (mulQ (mulQ l m) n) k=co (mulQ l (mulQ m n)) k:=by
 induction l generalizing k with
 | nil=>rfl
 | cons a l ih =>
  show co (mulQ (addQ (m.map (a*·)) (0::mulQ l m)) n) k=_
  rw[mulQ_add,mulQ_scale_l,zxe,zxe]
  cases k with
  | zero=>unfold sh;rw[if_pos rfl,if_pos rfl];grind
  | succ k =>
   have e:∀x:List Rat,sh (co x) (k+1)=co x k:=fun x=>by unfold sh;rw[if_neg xq,Nat.add_sub_cancel]
   rw[e,e,ih k];grind
theorem mulQ_one (m:List Rat) (k:Nat):co (mulQ [1] m) k=co m k:=by
 rw[zxe]
 have e:sh (co (mulQ [] m)) k=0:=by unfold sh;split<;>rfl
 rw[e];grind
theorem mul_comm (p q:Pol):p*q=q*p:=ext fun i=>by rw[c_mul,c_mul,mulQ_comm]
theorem mul_assoc (p q r:Pol):p*q*r=p*(q*r):=ext fun i=>by
 rw[c_mul,c_mul]
 show co (mulQ (trimQ (mulQ p.l q.l)) r.l) i=co (mulQ p.l (trimQ (mulQ q.l r.l))) i
 rw[zwh (l':=mulQ p.l q.l) (m':=r.l) (trim_co _) (fun _=>rfl),zwh (l':=p.l) (m':=mulQ q.l r.l) (fun _=>rfl) (trim_co _)]
 exact mulQ_assoc _ _ _ i
theorem one_mul (p:Pol):1*p=p:=ext fun i=>by
 rw[c_mul]
 show co (mulQ (trimQ [((1:Nat):Rat)]) p.l) i=_
 rw[zwh (l':=[((1:Nat):Rat)]) (m':=p.l) (trim_co _) (fun _=>rfl)]
 exact mulQ_one _ i
theorem right_distrib (p q r:Pol):(p+q)*r=p*r+q*r:=ext fun i=>by
 rw[c_mul,c_add,c_mul,c_mul]
 show co (mulQ (trimQ (addQ p.l q.l)) r.l) i=_
 rw[zwh (l':=addQ p.l q.l) (m':=r.l) (trim_co _) (fun _=>rfl)]
 exact mulQ_add _ _ _ i
theorem add_comm (p q:Pol):p+q=q+p:=ext fun i=>by rw[c_add,c_add];grind
theorem add_assoc (p q r:Pol):p+q+r=p+(q+r):=ext fun i=>by rw[c_add,c_add,c_add,c_add];grind
theorem add_zero (p:Pol):p+0=p:=ext fun i=>by rw[c_add,c_zero];grind
theorem neg_add_cancel (p:Pol) : -p+p=0:=ext fun i=>by rw[c_add,c_neg,c_zero];grind
theorem zero_mul (p:Pol):0*p=0:=ext fun i=>by rw[c_mul,zero_l,mulQ_nil,c_zero]
theorem left_distrib (p q r:Pol):p*(q+r)=p*q+p*r:=by rw[mul_comm,right_distrib,mul_comm q,mul_comm r]
theorem mul_zero (p:Pol):p*0=0:=by rw[mul_comm,zero_mul]
theorem mul_one (p:Pol):p*1=p:=by rw[mul_comm,one_mul]
instance:NatCast Pol:=⟨fun n=>C (n:Rat)⟩
instance:IntCast Pol:=⟨fun n=>C (n:Rat)⟩
def npow (p:Pol):Nat→Pol
 | 0=>1
 | n+1=>npow p n*p
instance:HPow Pol Nat Pol:=⟨npow⟩
instance:SMul Nat Pol:=⟨fun n p=>C (n:Rat)*p⟩
instance:SMul Int Pol:=⟨fun n p=>C (n:Rat)*p⟩
theorem C_add (a b:Rat):C (a+b)=C a+C b:=ext fun i=>by
 rw[c_add,c_C,c_C,c_C];split<;>grind
theorem C_neg (a:Rat):C (-a) = -C a:=ext fun i=>by
 rw[c_neg,c_C,c_C];split<;>grind
theorem C_zero:C 0=0:=rfl
theorem C_mul (a b:Rat):C (a*b)=C a*C b:=by
 show mk' [a*b]=mk' [a]*mk' [b]
 rw[← mk_mul]
 refine ext fun i=>?_
 rw[mk_c,mk_c,zxe]
 have e:sh (co (mulQ [] [b])) i=0:=by unfold sh;split<;>rfl
 rw[e]
 cases i with
 | zero=>rw[co_zero,co_zero];grind
 | succ i=>rw[zxv,zxv,co_nil];grind
instance:Lean.Grind.CommRing Pol where
 add_zero:=add_zero
 add_comm:=add_comm
 add_assoc:=add_assoc
 mul_assoc:=mul_assoc
 mul_one:=mul_one
 one_mul:=one_mul
 left_distrib:=left_distrib
 right_distrib:=right_distrib
 zero_mul:=zero_mul
 mul_zero:=mul_zero
 mul_comm:=mul_comm
 pow_zero:=fun p=>rfl
 pow_succ:=fun p n=>rfl
 neg_add_cancel:=neg_add_cancel
 sub_eq_add_neg:=fun p q=>rfl
 ofNat_succ:=fun n=>by
  show C ((n+1:Nat):Rat)=C (n:Rat)+C 1
  rw[← C_add];congr 1
  exact Rat.natCast_add n 1
 ofNat_eq_natCast:=fun n=>rfl
 intCast_ofNat:=fun n=>rfl
 intCast_neg:=fun n=>by
  show C ((-n:Int):Rat) = -C (n:Rat)
  rw[← C_neg,Rat.intCast_neg]
 nsmul_eq_natCast_mul:=fun n p=>rfl
 zsmul_natCast_eq_nsmul:=fun n p=>rfl
 neg_zsmul:=fun n p=>by
  show C ((-n:Int):Rat)*p = -(C (n:Rat)*p)
  rw[Rat.intCast_neg,C_neg]
  refine ext fun i=>?_
  rw[c_neg,c_mul,c_mul]
  show co (mulQ (trimQ (negQ (C (n:Rat)).l)) p.l) i=_
  rw[zwh (l':=negQ (C (n:Rat)).l) (m':=p.l) (trim_co _) (fun _=>rfl)]
  have e:negQ (C (n:Rat)).l=(C (n:Rat)).l.map ((-1)*·):=by unfold negQ;congr 1;funext x;grind
  rw[e,mulQ_scale_l];grind
example (p q:Pol):(p+q)*(p - q)=p*p - q*q:=by grind
example (p q:Pol):(p+q)^2=p^2+2*p*q+q^2:=by grind
end Pol
end Nt
namespace Nt
theorem mulQ_far {l m:List Rat} {k:Nat} (h:l.length+m.length≤k+1):co (mulQ l m) k=0:=by
 induction l generalizing k with
 | nil=>rfl
 | cons a l ih =>
  rw[zxe,co_ge (l:=m) (by simp at h;omega)]
  unfold sh
  split
  ·grind
  rw[ih (by simp at h;omega)];grind
theorem mulQ_top {l m:List Rat} (hl:0<l.length) (hm:0<m.length):co (mulQ l m) (l.length+m.length - 2)=co l (l.length - 1)*co m (m.length - 1):=by
 induction l with
 | nil=>simp at hl
 | cons a l ih =>
  rw[zxe]
  cases l with
  | nil =>
   have e:sh (co (mulQ [] m)) ([a].length+m.length - 2)=0:=by unfold sh;split<;>rfl
   rw[e]
   show a*co m (1+m.length - 2)+0=a*co m (m.length - 1)
   rw[show 1+m.length - 2=m.length - 1 by omega];grind
  | cons b l =>
   have ih:=ih zv
   rw[co_ge (l:=m) yy]
   unfold sh
   rw[if_neg yy]
   have e:(a::b::l).length+m.length - 2 - 1=(b::l).length+m.length - 2:=by simp;omega
   rw[e,ih,show (a::b::l).length - 1=((b::l).length - 1)+1 by simp,zxv];grind
namespace Pol
def len (p:Pol):Nat:=p.l.length
def lead (p:Pol):Rat:=p.c (p.len - 1)
theorem c_ge {p:Pol} {i:Nat} (h:p.len≤i):p.c i=0:=co_ge h
theorem len_le {p:Pol} {n:Nat} (h:∀i,n≤i→p.c i=0):p.len≤n:=by
 apply Classical.byContradiction
 intro k
 have h1:p.l.length>n:=by unfold len at k;omega
 have h2:=nrm_last p.h (by intro e;rw[e] at h1;simp at h1)
 exact h2 (h _ xq)
theorem len_zero:(0:Pol).len=0:=by unfold len;rw[zero_l];rfl
theorem zero_of_len {p:Pol} (h:p.len=0):p=0:=ext fun i=>by rw[c_zero,c_ge xq]
theorem len_pos {p:Pol} (h:p≠0):0<p.len:=by
 rcases Nat.eq_zero_or_pos p.len with k | k
 ·exact absurd (zero_of_len k) h
 exact k
theorem lead_ne {p:Pol} (h:p≠0):p.lead≠0:=nrm_last p.h (by intro e;have:=len_pos h;unfold len at this;rw[e] at this;simp at this)
theorem c_ne_len {p:Pol} {i:Nat} (h:p.c i≠0):i<p.len:=by
 apply Classical.byContradiction
 intro k
 exact h (c_ge xq)
theorem mul_far {p q:Pol} {k:Nat} (h:p.len+q.len≤k+1):(p*q).c k=0:=by rw[c_mul];exact mulQ_far h
theorem mul_top {p q:Pol} (hp:p≠0) (hq:q≠0):(p*q).c (p.len+q.len - 2)=p.lead*q.lead:=by rw[c_mul];exact mulQ_top (len_pos hp) (len_pos hq)
theorem len_mul {p q:Pol} (hp:p≠0) (hq:q≠0):(p*q).len+1=p.len+q.len:=by
 have h1:=len_pos hp
 have h2:=len_pos hq
 have h3:(p*q).len≤p.len+q.len - 1:=len_le fun i hi=>mul_far xq
 have h4:(p*q).c (p.len+q.len - 2)≠0:=by
  rw[mul_top hp hq]
  intro k
  rcases Rat.mul_eq_zero.1 k with k | k
  ·exact lead_ne hp k
  exact lead_ne hq k
 have:=c_ne_len h4
 omega
theorem C_ne {a:Rat} (h:a≠0):C a≠0:=fun e=>h (by have:=c_C a 0;rw[e,c_zero] at this;simpa using this.symm)
theorem len_C {a:Rat} (h:a≠0):(C a).len=1:=by
 have h1:(C a).len≤1:=len_le fun i hi=>by rw[c_C,if_neg xq]
 have:=len_pos (C_ne h)
 omega
instance:Dvd Pol:=⟨fun q p=>∃u,p=q*u⟩
theorem mk_cons' (a:Rat) (l:List Rat):mk' (a::l)=C a+X*mk' l:=ext fun i=>by
 have hX:∀p:Pol,(X*p).c i=if i=0 then 0 else p.c (i - 1):=fun p=>by
  rw[c_mul]
  show co (mulQ (trimQ [0,1]) p.l) i=_
  rw[zwh (l':=[0,1]) (m':=p.l) (trim_co _) (fun _=>rfl),zxe]
  unfold sh
  split
  ·grind
  rw[mulQ_one];show 0*_+p.c (i - 1)=_;grind
 rw[c_add,hX,mk_cons,c_C]
 split<;>grind
theorem ind {P:Pol→Prop} (h0:P 0) (h1:∀a p,P p→P (C a+X*p)) (p:Pol):P p:=by
 rw[← mk_l p]
 generalize p.l=l
 induction l with
 | nil=>exact (zero_of_len (p:=mk' []) rfl) ▸ h0
 | cons a l ih=>rw[mk_cons'];exact h1 a _ ih
def D (p:Pol):Pol:=mk' (derQ p.l)
def evL:List Rat→Rat→Rat
 | [],x=>0
 | a::l,x=>a+x*evL l x
theorem evL_zero {l:List Rat} (h:∀i,co l i=0) (x:Rat):evL l x=0:=by
 induction l with
 | nil=>rfl
 | cons a l ih =>
  have h0:a=0:=h 0
  show a+x*evL l x=0
  rw[ih fun i=>by rw[← zxv a];exact h (i+1),h0];grind
theorem evL_congr {l m:List Rat} (h:∀i,co l i=co m i) (x:Rat):evL l x=evL m x:=by
 induction l generalizing m with
 | nil=>rw[evL_zero (l:=m) fun i=>by rw[← h i,co_nil]];rfl
 | cons a l ih =>
  cases m with
  | nil=>rw[evL_zero (l:=a::l) fun i=>by rw[h i,co_nil]];rfl
  | cons b m =>
   have h0:a=b:=h 0
   show a+x*evL l x=b+x*evL m x
   have e:=ih (m:=m) (fun i=>by have:=h (i+1);rw[zxv,zxv] at this;exact this)
   rw[h0,e]
def ev (p:Pol) (x:Rat):Rat:=evL p.l x
theorem mk_ev (l:List Rat) (x:Rat):(mk' l).ev x=evL l x:=evL_congr (trim_co l) x
theorem ev_zero (x:Rat):ev 0 x=0:=evL_zero (fun i=>c_zero i) x
theorem ev_cons (a:Rat) (p:Pol) (x:Rat):ev (C a+X*p) x=a+x*ev p x:=by
 have e:C a+X*p=mk' (a::p.l):=by rw[mk_cons',mk_l]
 rw[e,mk_ev];rfl
theorem ev_add (p q:Pol) (x:Rat):ev (p+q) x=ev p x+ev q x:=by
 induction p using ind generalizing q with
 | h0=>rw[ev_zero,show (0:Pol)+q=q by grind];grind
 | h1 a p ih =>
  induction q using ind with
  | h0=>rw[ev_zero,add_zero];grind
  | h1 b q _ =>
   have e:C a+X*p+(C b+X*q)=C (a+b)+X*(p+q):=by rw[C_add];grind
   rw[e,ev_cons,ev_cons,ev_cons,ih];grind
theorem ev_C (a:Rat) (x:Rat):ev (C a) x=a:=by
 have e:C a=C a+X*0:=by rw[mul_zero,add_zero]
 rw[e,ev_cons,ev_zero];grind
theorem ev_Cmul (a:Rat) (p:Pol) (x:Rat):ev (C a*p) x=a*ev p x:=by
 induction p using ind with
 | h0=>rw[mul_zero,ev_zero];grind
 | h1 b p ih =>
  have e:C a*(C b+X*p)=C (a*b)+X*(C a*p):=by rw[C_mul];grind
  rw[e,ev_cons,ev_cons,ih];grind
theorem ev_mul (p q:Pol) (x:Rat):ev (p*q) x=ev p x*ev q x:=by
 induction p using ind with
 | h0=>rw[zero_mul,ev_zero];grind
 | h1 a p ih =>
  have e:(C a+X*p)*q=C a*q+(C 0+X*(p*q)):=by rw[C_zero];grind
  rw[e,ev_add,ev_Cmul,ev_cons,ih,ev_cons];grind
end Pol
end Nt
namespace Nt
def prim (l:List Rat):List Rat:=(trimQ l).map (· / msr (trimQ l))
@[simp] theorem prim_len (l:List Rat):(prim l).length=(trimQ l).length:=by simp[prim]
theorem co_mem {l:List Rat} {i:Nat} (h:i<l.length):co l i∈l:=by
 unfold co
 rw[qyg,List.getElem?_eq_getElem h]
 exact List.getElem_mem h
theorem mk_len (l:List Rat):(Pol.mk' l).len≤l.length:=zzh l
end Nt
open Go.RowKit Go.ChangeShapes Go.WideShapes
namespace Nt
def Sm (l:List Rat) (D A:Nat):Prop:=0<D∧∀i,Wh (co l i*((D:Int):Rat)) A
section
variable {l m:List Rat} {D E A B K:Nat} {q:Rat}
theorem dz (h:0<D):((D:Int):Rat)≠0:=fun e=>by
 have:=Rat.intCast_inj.1 (show ((D:Int):Rat)=((0:Int):Rat) from e);omega
theorem Sm.more (h:Sm l D A) (k:A≤B):Sm l D B:=⟨h.1,fun i=>(h.2 i).more k⟩
theorem Sm.co (h:Sm l D A) (e:∀i,co m i=co l i):Sm m D A:=⟨h.1,fun i=>by rw[e];exact h.2 i⟩
theorem Sm.trim (h:Sm l D A):Sm (trimQ l) D A:=h.co (trim_co l)
theorem dl_dg {n C:Nat} (h:n≤2^C):dl n≤dg C:=by
 refine dl_le ?_
 rw[pwTwo]
 exact Int.ofNat_lt.2 (Nat.lt_of_le_of_lt h (Nat.pow_lt_pow_right xq (by unfold dg;omega)))
theorem wh_rs {x:Rat} (h0:0<D) (h:Wh (x*((D:Int):Rat)) A) (hD:D≤2^A):rs x≤dg A:=by
 obtain ⟨z,hz,hb⟩:=h
 have h1:=dz h0
 have e:x=mkRat z D:=by rw[← mk_div,← hz];grind
 rw[e]
 exact rs_mk (dl_dg hb) (dl_dg hD) (by unfold dg;omega)
theorem Sm.rs (h:Sm l D A) (hD:D≤2^A) (i:Nat):rs (Nt.co l i)≤dg A:=wh_rs h.1 (h.2 i) hD
theorem WhL.mulQ (h:WhL l A) (k:WhL m B):WhL (mulQ l m) (A+B+l.length):=by
 induction l with
 | nil=>exact fun i=>by rw[mulQ_nil];exact Wh.zero _
 | cons a l ih =>
  intro i
  rw[zxe]
  have h0:Wh a A:=by have:=h 0;rwa [co_zero] at this
  have h1:WhL l A:=fun i=>by have:=h (i+1);rwa [zxv] at this
  have e:A+B+(a::l).length=A+B+l.length+1:=by simp;omega
  rw[e]
  refine ((h0.mul (k i)).more xq).add ?_
  unfold sh
  split
  ·exact Wh.zero _
  exact ih h1 _
theorem Sm.mul (h:Sm l D A) (k:Sm m E B):Sm (mulQ l m) (D*E) (A+B+l.length):=by
 refine ⟨Nat.mul_pos h.1 k.1,fun i=>?_⟩
 have h1:WhL (l.map (((D:Int):Rat)*·)) A:=fun i=>by rw[co_map (fun x=>((D:Int):Rat)*x) (Rat.mul_zero _),Rat.mul_comm];exact h.2 i
 have h2:WhL (m.map (((E:Int):Rat)*·)) B:=fun i=>by rw[co_map (fun x=>((E:Int):Rat)*x) (Rat.mul_zero _),Rat.mul_comm];exact k.2 i
 have h3:=h1.mulQ h2 i
 rw[mulQ_scale_l,mulQ_scale_r,List.length_map] at h3
 rw[show Nt.co (mulQ l m) i*(((D*E:Nat):Int):Rat)=((D:Int):Rat)*(((E:Int):Rat)*Nt.co (mulQ l m) i) by rw[show (((D*E:Nat):Int):Rat)=((D:Int):Rat)*((E:Int):Rat) by rw[← Rat.intCast_mul];simp];grind]
 exact h3
theorem Sm.mulR (h:Sm l D A) (k:Sm m E B):Sm (mulQ l m) (D*E) (A+B+m.length):=by
 have h9:=(k.mul h).co (m:=mulQ l m) (fun i=>Pol.mulQ_comm l m i)
 rw[Nat.mul_comm D E,Nat.add_comm A B]
 exact h9
theorem whInt {z:Int} {b:Nat} (h:z.natAbs≤2^b):Wh (z:Rat) b:=⟨z,rfl,h⟩
theorem Sm.ofInts {zs:List Int} (h:∀z∈zs,z.natAbs≤2^A):Sm (List.map (fun z:Int=>(z:Rat)) zs) 1 A:=⟨by omega,fun i=>by
 rw[show ((((1:Nat):Int)):Rat)=1 from rfl,Rat.mul_one]
 unfold Nt.co
 rw[qyg,List.getElem?_map]
 cases e:zs[i]? with
 | none=>exact Wh.zero _
 | some z=>exact whInt (h z (List.mem_of_getElem? e))⟩
theorem Sm.ofAll (hD:0<D) (h:∀x∈l,Wh (x*((D:Int):Rat)) A):Sm l D A:=⟨hD,fun i=>by
 by_cases hi:i<l.length
 ·exact h _ (co_mem hi)
 rw[co_ge xq,Rat.zero_mul];exact Wh.zero _⟩
end
theorem Pol.eqk {p q:Pol} (h:p.l=q.l):p=q:=by cases p;cases q;simp_all
end Nt
section
variable {u:World} {x:Sl} {l:List Rat} {D A K:Nat}
theorem RatsN.fitS {L:List RL} (h:RatsN u L l K) (s:Sm l D A) (hD:D≤2^A):RatsN u L l (dg A):=⟨h.1,fun i hi=>(h.2 i hi).fit (s.rs hD i)⟩
theorem PolN.fitS (h:PolN u x l K) (s:Sm l D A) (hD:D≤2^A):PolN u x l (dg A):=by obtain ⟨L,h1,h2⟩:=h;exact ⟨L,h1,h2.fitS s hD⟩
end
section
variable {H:Type} {enc:TypeId×Value→H} {w:World} {base:Nat} {spare:Nat→Bool} {held:Bool} {fuel:Nat} {r0:Reach} {b0:Nat} {v:Value} {d:DataW H} {p:List MemPlace}
set_option maxRecDepth 100000 in
theorem ar_intsv (hv:Value.okWide Tryz.prog w r0 b0 22 v) (h:DataW.Trod enc Tryz.prog w base spare held 22 v d p):∃ (s:Sl) (l:List Int),v=s.v∧SlR .i64 w s.a s.n s.c l∧∀z∈l,-9223372036854775808≤z∧z≤9223372036854775807:=by
 obtain ⟨a,n,c,rfl⟩:=okWide_slice Tryz.underlying22 hv
 obtain ⟨fuel,hf⟩:=h
 obtain ⟨s,l,h1,h2,h3⟩:=ar_slr (k:=.i64) (e:=3) xj xj xj hf
 have h1:[Value.slice a n c]=[s.v]:=h1
 exact ⟨s,l,(List.cons.inj h1).1,h2,fun z hz=>wf_i64 (h3 z hz)⟩
end
end Go.Proofs.YtedobdigeeflcaaGreat
namespace Go.Proofs.YtedobdigeeflcaaGreat
open Nt
open Go.RowKit
namespace Nt
def flr (q:Rat):Int:=q.num / (q.den:Int)
def dnQ (q:Rat) (k:Nat):Rat:=mkRat (flr (q*((2^k:Nat):Rat))) (2^k)
theorem flr_mk {z:Int} {D:Nat} (hD:0<D):flr (mkRat z D)=z / (D:Int):=by
 have h1:mkRat z D=mkRat (mkRat z D).num (mkRat z D).den:=(Rat.mkRat_self _).symm
 rw[Rat.mkRat_eq_iff xq (by have:=(mkRat z D).den_pos;omega)] at h1
 have hd:=(mkRat z D).den_pos
 unfold flr
 generalize (mkRat z D).num=n at *
 generalize (mkRat z D).den=d at *
 have e1:z / (D:Int)=((d:Int)*z) / ((d:Int)*(D:Int)):=(Int.mul_ediv_mul_of_pos _ _ xq).symm
 have e2:n / (d:Int)=((D:Int)*n) / ((D:Int)*(d:Int)):=(Int.mul_ediv_mul_of_pos _ _ xq).symm
 rw[e1,e2,Int.mul_comm (d:Int) z,h1,Int.mul_comm n,Int.mul_comm (d:Int)]
theorem shl_mk (z:Int) (D m:Nat):mkRat z D*((m:Nat):Rat)=mkRat (z*(m:Int)) D:=by
 rw[Rat.mkRat_eq_div,Rat.mkRat_eq_div,Rat.intCast_mul]
 show (z:Rat) / (D:Rat)*(m:Rat)=(z:Rat)*((m:Int):Rat) / (D:Rat)
 have:((m:Int):Rat)=(m:Rat):=rfl
 rw[this]
 grind
theorem dn_mk {z:Int} {D k:Nat} (hD:0<D):dnQ (mkRat z D) k=mkRat ((z*((2^k:Nat):Int)) / (D:Int)) (2^k):=by
 unfold dnQ
 rw[shl_mk,flr_mk hD]
theorem sg_mulN {s:Bool} {N m:Nat}:sg s ((sg s N).natAbs*m)=sg s N*(m:Int):=by
 rw[sg_abs]
 unfold sg
 cases s
 ·simp
 simp[Int.neg_mul]
theorem rdiv0 {s:Bool} {N D:Nat} (hD:0<D) (h:¬(s=true∧0<N%D)):sg s N / (D:Int)=sg (!(s==false)) (N / D)∧sg s N%(D:Int)=sg false (N%D):=by
 have hm:=Nat.mod_lt N hD
 have hk:=Nat.div_add_mod N D
 have hk2:(N:Int)=(D:Int)*((N / D:Nat):Int)+((N%D:Nat):Int):=by rw[← Int.natCast_mul,← Int.natCast_add,hk]
 apply ediv_uniq xq
 ·unfold sg
  cases s
  ·simpa using hk2
  have h0:N%D=0:=by simp at h;omega
  rw[h0] at hk2 ⊢
  generalize N / D=Q at *
  simp[Int.mul_neg]
  omega
 ·unfold sg;simp;omega
 unfold sg;simp;omega
theorem rdiv1 {N D:Nat} (hD:0<D) (h:0<N%D):sg true N / (D:Int)=sg (!(true==false)) (N / D+1)∧sg true N%(D:Int)=sg false (D - N%D):=by
 have hm:=Nat.mod_lt N hD
 have hk:=Nat.div_add_mod N D
 have hk2:(N:Int)=(D:Int)*((N / D:Nat):Int)+((N%D:Nat):Int):=by rw[← Int.natCast_mul,← Int.natCast_add,hk]
 apply ediv_uniq xq
 ·unfold sg
  simp
  rw[show ((N:Int) / (D:Int))=((N / D:Nat):Int) from rfl,show ((D - N%D:Nat):Int)=(D:Int) - ((N%D:Nat):Int) by omega,Int.mul_neg,Int.mul_add]
  omega
 ·unfold sg;simp
 unfold sg;simp;omega
end Nt
end Go.Proofs.YtedobdigeeflcaaGreat
namespace Go.Proofs.YtedobdigeeflcaaGreat
open Nt
namespace Nt
def sgn (j:Nat):Rat:=if j%2=0 then 1 else -1
theorem sgn_s (j:Nat):sgn (j+1) = -sgn j:=by
 unfold sgn
 rcases Nat.mod_two_eq_zero_or_one j with h | h
 ·rw[if_pos h,if_neg (show ¬(j+1)%2=0 by omega)]
 rw[if_neg (show ¬j%2=0 by omega),if_pos (show (j+1)%2=0 by omega)];rfl
theorem sgn_or (j:Nat):sgn j=1∨sgn j = -1:=by unfold sgn;split<;>simp
def alt (a:Nat→Rat):Nat→Rat
 | 0=>0
 | n+1=>alt a n+sgn n*a n
theorem alt_s (a:Nat→Rat) (n:Nat):alt a (n+1)=alt a n+sgn n*a n:=rfl
theorem alt_tail {a:Nat→Rat} {j0:Nat} (h0:∀j,0≤a j) (hd:∀j,j0≤j→a (j+1)≤a j):∀d j,j0≤j→0≤sgn j*(alt a (j+d) - alt a j)∧sgn j*(alt a (j+d) - alt a j)≤a j:=by
 intro d
 induction d with
 | zero=>intro j _;have:=h0 j;rw[Nat.add_zero,Rat.sub_self,Rat.mul_zero];exact ⟨Rat.le_refl,this⟩
 | succ d ih =>
  intro j hj
  have h1:=ih (j+1) xq
  have h2:=hd j hj
  have h3:=h0 (j+1)
  rw[show j+1+d=j+(d+1) by omega,sgn_s,alt_s] at h1
  generalize alt a (j+(d+1))=x at *
  generalize alt a j=y at *
  rcases sgn_or j with e | e<;>rw[e] at h1 ⊢ <;> grind
theorem alt_near {a:Nat→Rat} {j0 j m:Nat} (h0:∀j,0≤a j) (hd:∀j,j0≤j→a (j+1)≤a j) (hj:j0≤j) (hm:j≤m):alt a j - a j≤alt a m∧alt a m≤alt a j+a j:=by
 obtain ⟨d,rfl⟩:∃d,m=j+d:=⟨m - j,by omega⟩
 have h1:=alt_tail h0 hd d j hj
 rcases sgn_or j with e | e<;>rw[e] at h1<;>grind
theorem div_nn {x y:Rat} (hx:0≤x) (hy:0<y):0≤x / y:=by
 rw[Rat.div_def];exact Rat.mul_nonneg hx (Rat.le_of_lt (Rat.inv_pos.2 hy))
theorem div_mul_c {x y:Rat} (hy:0<y):x / y*y=x:=by
 rw[Rat.div_def,Rat.mul_assoc,Rat.inv_mul_cancel _ (by grind),Rat.mul_one]
theorem le_dv {x y z:Rat} (hy:0<y) (h:x*y≤z):x≤z / y:=by
 refine Rat.le_of_mul_le_mul_right (c:=y) ?_ hy
 rw[div_mul_c hy];exact h
theorem dv_le {x y z:Rat} (hy:0<y) (h:z≤x*y):z / y≤x:=by
 refine Rat.le_of_mul_le_mul_right (c:=y) ?_ hy
 rw[div_mul_c hy];exact h
theorem div_le_self {x y:Rat} (hx:0≤x) (hy:1≤y):x / y≤x:=by
 refine dv_le (by grind) ?_
 have:=Rat.mul_le_mul_of_nonneg_left (a:=1) (b:=y) (c:=x) hy hx
 grind
theorem div_mono {x x' y:Rat} (hy:0<y) (h:x≤x'):x / y≤x' / y:=by
 refine le_dv hy ?_
 rw[div_mul_c hy];exact h
theorem mulm {a b c d:Rat} (h1:a≤b) (h2:c≤d) (h3:0≤a) (h4:0≤c):a*c≤b*d :=
 Rat.le_trans (Rat.mul_le_mul_of_nonneg_right h1 h4) (Rat.mul_le_mul_of_nonneg_left h2 (Rat.le_trans h3 h1))
def atP (n:Nat):Nat→Rat
 | 0=>1 / (n:Rat)
 | j+1=>atP n j / ((n*n:Nat):Rat)
def atT (n j:Nat):Rat:=atP n j / ((2*j+1:Nat):Rat)
theorem cast_pos {n:Nat} (h:0<n):(0:Rat)<(n:Rat):=by
 have:((0:Nat):Rat)<(n:Rat):=Rat.natCast_lt_natCast.2 h
 exact this
theorem cast_one {n:Nat} (h:0<n):(1:Rat)≤(n:Rat):=by
 have:((1:Nat):Rat)≤(n:Rat):=Rat.natCast_le_natCast.2 h
 exact this
theorem atP_nn {n:Nat} (hn:0<n):∀j,0≤atP n j
 | 0=>div_nn yq (cast_pos hn)
 | j+1=>div_nn (atP_nn hn j) (cast_pos (Nat.mul_pos hn hn))
theorem atT_nn {n:Nat} (hn:0<n) (j:Nat):0≤atT n j:=div_nn (atP_nn hn j) (cast_pos xq)
theorem atP_le {n:Nat} (hn:0<n) (j:Nat):atP n (j+1)≤atP n j:=div_le_self (atP_nn hn j) (cast_one (Nat.mul_pos hn hn))
theorem atT_le {n:Nat} (hn:0<n) (j:Nat):atT n (j+1)≤atT n j:=by
 have h1:=atP_le hn j
 have h2:=atP_nn hn (j+1)
 refine Rat.le_trans (b:=atP n (j+1) / ((2*j+1:Nat):Rat)) ?_ (div_mono (cast_pos xq) h1)
 refine dv_le (cast_pos xq) ?_
 have h3:((2*j+1:Nat):Rat)≤((2*(j+1)+1:Nat):Rat):=Rat.natCast_le_natCast.2 xq
 have h4:=Rat.mul_le_mul_of_nonneg_left (c:=atP n (j+1) / ((2*j+1:Nat):Rat)) h3 (div_nn h2 (cast_pos xq))
 rw[div_mul_c (cast_pos xq)] at h4
 exact h4
def piN (m:Nat):Rat:=16*alt (atT 5) m - 4*alt (atT 239) m
theorem atT_b {n:Nat} (hn:0<n) {m:Nat} (hm:1≤m):atT n 0 - atT n 1≤alt (atT n) m∧alt (atT n) m≤atT n 0:=by
 obtain ⟨d,rfl⟩:∃d,m=1+d:=⟨m - 1,by omega⟩
 have h1:=alt_tail (j0:=0) (atT_nn hn) (fun j _=>atT_le hn j) d 1 xq
 have h2:alt (atT n) 1=atT n 0:=by show 0+(1:Rat)*atT n 0=_;grind
 have h3:sgn 1 = -1:=rfl
 rw[h2,h3] at h1
 grind
theorem piN_b {m:Nat} (hm:1≤m):157 / 50≤piN m∧piN m≤16 / 5:=by
 have h1:=atT_b (n:=5) yq hm
 have h2:=atT_b (n:=239) yq hm
 have e1:atT 5 0=1 / 5:=by decide +kernel
 have e2:atT 5 1=1 / 375:=by decide +kernel
 have e3:atT 239 0=1 / 239:=by decide +kernel
 have e4:atT 239 0 - atT 239 1≥0:=by decide +kernel
 unfold piN
 rw[e1,e2] at h1
 rw[e3] at h2 e4
 constructor
 ·have:(157 / 50:Rat)≤16*(1 / 5 - 1 / 375) - 4*(1 / 239):=by decide +kernel
  grind
 have:(16:Rat)*(1 / 5)≤16 / 5:=by decide +kernel
 grind
def csT (y:Rat):Nat→Rat
 | 0=>1
 | j+1=>csT y j*(y*y) / (((2*j+2)*(2*j+1):Nat):Rat)
theorem csq_nn (y:Rat):0≤y*y:=by
 rcases Rat.le_total (a:=0) (b:=y) with h | h
 ·exact Rat.mul_nonneg h h
 have h1:0 ≤ -y:=by grind
 have h2:=Rat.mul_nonneg h1 h1
 grind
theorem csT_nn (y:Rat):∀j,0≤csT y j
 | 0=>by show (0:Rat)≤1;decide
 | j+1=>div_nn (Rat.mul_nonneg (csT_nn y j) (csq_nn y)) (cast_pos (Nat.mul_pos xq xq))
theorem csT_le {y:Rat} (hy:y*y≤12):∀j,1≤j→csT y (j+1)≤csT y j:=by
 intro j hj
 refine dv_le (cast_pos (Nat.mul_pos xq xq)) ?_
 refine Rat.mul_le_mul_of_nonneg_left ?_ (csT_nn y j)
 have:((12:Nat):Rat)≤(((2*j+2)*(2*j+1):Nat):Rat):=Rat.natCast_le_natCast.2 (by
  have:=Nat.mul_le_mul (show 4≤2*j+2 by omega) (show 3≤2*j+1 by omega);omega)
 exact Rat.le_trans hy this
def csY (p q m:Nat):Rat:=piN m*(p:Rat) / (q:Rat)
def coN (p q m:Nat):Rat:=alt (csT (csY p q m)) m
def cdiv (b d:Int):Int := -((-b) / d)
theorem fl_mul {a d:Int} (hd:0<d):a / d*d≤a∧a - d+1≤a / d*d:=by
 have h1:=Int.ediv_mul_le a (b:=d) xq
 have h2:=Int.lt_ediv_add_one_mul_self a hd
 rw[Int.add_mul,Int.one_mul] at h2
 omega
theorem cd_mul {b d:Int} (hd:0<d):b≤cdiv b d*d∧cdiv b d*d≤b+d - 1:=by
 have h1:=fl_mul (a := -b) hd
 unfold cdiv
 rw[Int.neg_mul]
 omega
theorem cd_eq0 {b d:Int} (hd:0<d) (h:b%d=0):cdiv b d=b / d:=by
 have h1:=Int.emod_add_mul_ediv b d
 unfold cdiv
 have h2 : -b=d*(-(b / d)):=by rw[Int.mul_neg];omega
 rw[h2,Int.mul_ediv_cancel_left _ xq];omega
theorem cd_eq1 {b d:Int} (hd:0<d) (h:¬b%d=0):cdiv b d=b / d+1:=by
 have h1:=Int.emod_add_mul_ediv b d
 have h2:=Int.emod_nonneg b (b:=d) xq
 have h3:=Int.emod_lt_of_pos b hd
 have h4:=cd_mul (b:=b) hd
 have h5:b / d*d<cdiv b d*d:=by rw[Int.mul_comm];omega
 have h6:cdiv b d*d<(b / d+2)*d:=by rw[Int.add_mul,Int.mul_comm (b / d)];omega
 have h7:=Int.lt_of_mul_lt_mul_right h5 xq
 have h8:=Int.lt_of_mul_lt_mul_right h6 xq
 omega
theorem cd_width {a b d:Int} (hd:0<d):(cdiv b d - a / d)*d≤b - a+2*d - 2:=by
 have h1:=fl_mul (a:=a) hd
 have h2:=cd_mul (b:=b) hd
 rw[Int.sub_mul];omega
theorem cast_mul_le {a b c:Int} (h:a*b≤c):(a:Rat)*(b:Rat)≤(c:Rat):=by
 have:=Rat.intCast_le_intCast.2 h
 rwa [Rat.intCast_mul] at this
theorem castI_pos {d:Int} (h:0<d):(0:Rat)<(d:Rat):=by
 have:=Rat.intCast_lt_intCast.2 h
 exact this
theorem fl_le {a d:Int} {z:Rat} (hd:0<d) (h:(a:Rat)≤z):((a / d:Int):Rat)≤z / (d:Rat):=by
 refine le_dv (castI_pos hd) (Rat.le_trans (cast_mul_le (fl_mul (a:=a) hd).1) h)
theorem le_ce {b d:Int} {z:Rat} (hd:0<d) (h:z≤(b:Rat)):z / (d:Rat)≤((cdiv b d:Int):Rat):=by
 refine dv_le (castI_pos hd) (Rat.le_trans h ?_)
 have:=Rat.intCast_le_intCast.2 (cd_mul (b:=b) hd).1
 rwa [Rat.intCast_mul] at this
def Enc (U:Int) (lo hi:Int) (x:Rat):Prop:=(lo:Rat)≤x*(U:Rat)∧x*(U:Rat)≤(hi:Rat)
section
variable {U a b a' b' d:Int} {x y:Rat}
theorem Enc.over (h:Enc U a b x) (hd:0<d):Enc U (a / d) (cdiv b d) (x / (d:Rat)):=by
 have h1:=fl_le hd h.1
 have h2:=le_ce hd h.2
 have e:x / (d:Rat)*(U:Rat)=x*(U:Rat) / (d:Rat):=by rw[Rat.div_def,Rat.div_def];grind
 unfold Enc
 rw[e]
 exact ⟨h1,h2⟩
theorem Enc.add (h:Enc U a b x) (k:Enc U a' b' y):Enc U (a+a') (b+b') (x+y):=by
 obtain ⟨h1,h2⟩:=h
 obtain ⟨k1,k2⟩:=k
 unfold Enc
 rw[Rat.intCast_add,Rat.intCast_add]
 constructor<;>grind
theorem Enc.sub (h:Enc U a b x) (k:Enc U a' b' y):Enc U (a - b') (b - a') (x - y):=by
 obtain ⟨h1,h2⟩:=h
 obtain ⟨k1,k2⟩:=k
 unfold Enc
 rw[Rat.intCast_sub,Rat.intCast_sub]
 constructor<;>grind
theorem Enc.times {n:Nat} (h:Enc U a b x):Enc U (a*(n:Int)) (b*(n:Int)) (x*(n:Rat)):=by
 obtain ⟨h1,h2⟩:=h
 have hn:(0:Rat)≤(n:Rat):=by
  have:((0:Nat):Rat)≤(n:Rat):=Rat.natCast_le_natCast.2 (Nat.zero_le n)
  exact this
 have k1:=Rat.mul_le_mul_of_nonneg_right h1 hn
 have k2:=Rat.mul_le_mul_of_nonneg_right h2 hn
 have e:(((n:Nat):Int):Rat)=(n:Rat):=rfl
 unfold Enc
 rw[Rat.intCast_mul,Rat.intCast_mul,e]
 constructor<;>grind
theorem Enc.near {r:Rat} (h:Enc U a b x) (h1:x - r≤y) (h2:y≤x+r) (hr:r*(U:Rat)≤1) (hU:0<U):Enc U (a - 1) (b+1) y:=by
 obtain ⟨k1,k2⟩:=h
 have k3:=Rat.mul_le_mul_of_nonneg_right h1 (Rat.le_of_lt (castI_pos hU))
 have k4:=Rat.mul_le_mul_of_nonneg_right h2 (Rat.le_of_lt (castI_pos hU))
 unfold Enc
 rw[Rat.intCast_sub,Rat.intCast_add]
 have e:((1:Int):Rat)=1:=rfl
 rw[e]
 constructor<;>grind
theorem Enc.prod (h:Enc U a b x) (k:Enc U a' b' y) (ha:0≤a) (ha':0≤a') (hU:0<U):Enc U (a*a' / U) (cdiv (b*b') U) (x*y):=by
 obtain ⟨h1,h2⟩:=h
 obtain ⟨k1,k2⟩:=k
 have za:(0:Rat)≤(a:Rat):=Rat.intCast_le_intCast.2 ha
 have za':(0:Rat)≤(a':Rat):=Rat.intCast_le_intCast.2 ha'
 have m1:=mulm h1 k1 za za'
 have m2:=mulm h2 k2 (Rat.le_trans za h1) (Rat.le_trans za' k1)
 rw[← Rat.intCast_mul] at m1 m2
 have r1:=fl_le hU m1
 have r2:=le_ce hU m2
 have e:x*(U:Rat)*(y*(U:Rat)) / (U:Rat)=x*y*(U:Rat):=by
  have:=castI_pos hU
  rw[Rat.div_def]
  have e2:(U:Rat)*(U:Rat)⁻¹=1:=Rat.mul_inv_cancel _ (by grind)
  grind
 rw[e] at r1 r2
 exact ⟨r1,r2⟩
theorem Enc.lo_le {c:Int} (h:Enc U a b x) (hx:x*(U:Rat)≤(c:Rat)):a≤c:=Rat.intCast_le_intCast.1 (Rat.le_trans h.1 hx)
theorem Enc.le_hi {c:Int} (h:Enc U a b x) (hx:(c:Rat)≤x*(U:Rat)):c≤b:=Rat.intCast_le_intCast.1 (Rat.le_trans hx h.2)
theorem Enc.le (h:Enc U a b x):a≤b:=Rat.intCast_le_intCast.1 (Rat.le_trans h.1 h.2)
theorem Enc.nonneg (h:Enc U a b x) (hx:0≤x) (hU:0<U):0≤b:=h.le_hi (c:=0) (Rat.mul_nonneg hx (Rat.le_of_lt (castI_pos hU)))
theorem Enc.one:Enc U U U 1:=by unfold Enc;rw[Rat.one_mul];exact ⟨Rat.le_refl,Rat.le_refl⟩
end
theorem fl_nn {a d:Int} (ha:0≤a) (hd:0<d):0≤a / d:=Int.ediv_nonneg ha xq
theorem cd_le {b d c:Int} (hd:0<d) (h:b≤c*d):cdiv b d≤c:=by
 have h1:=(cd_mul (b:=b) hd).2
 have h2:cdiv b d*d<(c+1)*d:=by rw[Int.add_mul];omega
 have:=Int.lt_of_mul_lt_mul_right h2 xq
 omega
theorem cd_ge {b d c:Int} (hd:0<d) (h:c*d<b):c+1≤cdiv b d:=by
 have h1:=(cd_mul (b:=b) hd).1
 have h2:c*d<cdiv b d*d:=by omega
 have:=Int.lt_of_mul_lt_mul_right h2 xq
 omega
theorem cd_self {b d:Int} (hb:0≤b) (hd:0<d):cdiv b d≤b:=cd_le hd (by
 have:=Int.mul_le_mul_of_nonneg_left (show 1≤d by omega) hb;omega)
theorem cd_half {b d:Int} (hb:2≤b) (hd:3≤d):2*cdiv b d≤b:=by
 have h1:=cd_mul (b:=b) (show 0<d by omega)
 rcases Int.lt_or_le b (2*cdiv b d) with h | h
 ·exfalso
  have h2:(b+1)*d≤2*cdiv b d*d:=Int.mul_le_mul_of_nonneg_right xq xq
  have e:2*cdiv b d*d=2*(cdiv b d*d):=Int.mul_assoc ..
  rw[Int.add_mul,Int.one_mul,e] at h2
  have h3:b*3≤b*d:=Int.mul_le_mul_of_nonneg_left hd xq
  have h4:(b - 2)*3≤(b - 2)*d:=Int.mul_le_mul_of_nonneg_left hd xq
  rw[Int.sub_mul,Int.sub_mul] at h4
  omega
 exact h
theorem w3 {a b d:Int} (h:b - a≤3) (hd:0<d):cdiv b d - a / d≤3:=by
 have h1:=cd_width (a:=a) (b:=b) hd
 rcases Int.lt_or_le 3 (cdiv b d - a / d) with h2 | h2
 ·have h3:=Int.mul_le_mul_of_nonneg_right (show 4≤cdiv b d - a / d by omega) (show 0≤d by omega)
  omega
 exact h2
end Nt
namespace Nt
def u2 (w:Nat):Int:=((2^w:Nat):Int)
theorem u2_pos (w:Nat):0<u2 w:=by
 have:=Nat.pow_pos (n:=w) (show 0<2 by decide)
 unfold u2;omega
theorem u2_add (a b:Nat):u2 (a+b)=u2 a*u2 b:=by unfold u2;rw[Nat.pow_add];exact Int.natCast_mul _ _
theorem u2_mono {a b:Nat} (h:a≤b):u2 a≤u2 b:=Int.ofNat_le.2 (Nat.pow_le_pow_right yq h)
theorem u2_le_iff {a b:Nat} (h:u2 a≤u2 b):a≤b:=(Nat.pow_le_pow_iff_right yq).1 (Int.ofNat_le.1 h)
theorem lin8:∀w:Nat,16≤w→8*(128*(w:Int)+800)≤u2 w:=by
 intro w hw
 obtain ⟨k,rfl⟩:∃k,w=16+k:=⟨w - 16,by omega⟩
 induction k with
 | zero=>decide +kernel
 | succ k ih =>
  have h1:=ih xq
  have h2:u2 (16+(k+1))=u2 (16+k)*2:=u2_add (16+k) 1
  rw[h2];omega
structure AtI (n w j:Nat) (pl ph sl sh:Int):Prop where
 p:Enc (u2 w) pl ph (atP n j)
 s:Enc (u2 w) sl sh (alt (atT n) (j+1))
 p0:0≤pl
 p1:1≤ph
 pw:ph - pl≤3
 sw:sh - sl≤3*((j:Int)+1)
 fall:ph*u2 j≤u2 w
def AtR (n w:Nat) (lo hi:Int):Prop:=(∃N:Nat,∀m,N≤m→Enc (u2 w) lo hi (alt (atT n) m))∧hi - lo≤5*(w:Int)+8
theorem AtI.start {n w:Nat} (hn:0<n):AtI n w 0 (u2 w / (n:Int)) (cdiv (u2 w) (n:Int)) (u2 w / (n:Int)) (cdiv (u2 w) (n:Int)):=by
 have hn':(0:Int)<(n:Int):=by omega
 have hU:=u2_pos w
 have h1:Enc (u2 w) (u2 w / (n:Int)) (cdiv (u2 w) (n:Int)) (atP n 0):=Enc.one.over hn'
 have h2:alt (atT n) (0+1)=atP n 0:=by
  show 0+(1:Rat)*(atP n 0 / (((2*0+1:Nat)):Rat))=_
  have e:(((2*0+1:Nat)):Rat)=1:=rfl
  rw[e];grind
 have h3:=w3 (a:=u2 w) (b:=u2 w) (d:=(n:Int)) xq hn'
 refine ⟨h1,by rw[h2];exact h1,fl_nn xq hn',cd_ge (c:=0) hn' xq,h3,by omega,?_⟩
 have:u2 0=1:=rfl
 rw[this,Int.mul_one]
 exact cd_self xq hn'
section
variable {n w j:Nat} {pl ph sl sh:Int}
theorem AtI.jw (h:AtI n w j pl ph sl sh):j≤w:=by
 refine u2_le_iff (Int.le_trans ?_ h.fall)
 have:=Int.mul_le_mul_of_nonneg_right h.p1 (Int.le_of_lt (u2_pos j))
 omega
theorem AtI.power (h:AtI n w j pl ph sl sh) (hn:0<n):Enc (u2 w) (pl / ((n*n:Nat):Int)) (cdiv ph ((n*n:Nat):Int)) (atP n (j+1)):=h.p.over (by have:=Nat.mul_pos hn hn;omega)
theorem AtI.term (h:AtI n w j pl ph sl sh) (hn:0<n):Enc (u2 w) (pl / ((n*n:Nat):Int) / ((2*j+3:Nat):Int)) (cdiv (cdiv ph ((n*n:Nat):Int)) ((2*j+3:Nat):Int)) (atT n (j+1)) :=
 (h.power hn).over (d:=((2*j+3:Nat):Int)) xq
theorem AtI.pw' (h:AtI n w j pl ph sl sh) (hn:0<n):cdiv ph ((n*n:Nat):Int) - pl / ((n*n:Nat):Int)≤3:=w3 h.pw (by have:=Nat.mul_pos hn hn;omega)
theorem AtI.tw (h:AtI n w j pl ph sl sh) (hn:0<n):cdiv (cdiv ph ((n*n:Nat):Int)) ((2*j+3:Nat):Int) - pl / ((n*n:Nat):Int) / ((2*j+3:Nat):Int)≤3:=w3 (h.pw' hn) xq
theorem AtI.sub (h:AtI n w j pl ph sl sh) (hn:0<n) (hj:j%2=0):Enc (u2 w) (sl - cdiv (cdiv ph ((n*n:Nat):Int)) ((2*j+3:Nat):Int)) (sh - pl / ((n*n:Nat):Int) / ((2*j+3:Nat):Int)) (alt (atT n) (j+1+1)):=by
 have h1:=h.s.sub (h.term hn)
 have e:alt (atT n) (j+1+1)=alt (atT n) (j+1) - atT n (j+1):=by
  rw[alt_s];unfold sgn;rw[if_neg xq];grind
 rw[e];exact h1
theorem AtI.add (h:AtI n w j pl ph sl sh) (hn:0<n) (hj:¬j%2=0):Enc (u2 w) (sl+pl / ((n*n:Nat):Int) / ((2*j+3:Nat):Int)) (sh+cdiv (cdiv ph ((n*n:Nat):Int)) ((2*j+3:Nat):Int)) (alt (atT n) (j+1+1)):=by
 have h1:=h.s.add (h.term hn)
 have e:alt (atT n) (j+1+1)=alt (atT n) (j+1)+atT n (j+1):=by
  rw[alt_s];unfold sgn;rw[if_pos xq];grind
 rw[e];exact h1
theorem AtI.go {sl' sh':Int} (h:AtI n w j pl ph sl sh) (hn:2≤n) (ht:2≤cdiv (cdiv ph ((n*n:Nat):Int)) ((2*j+3:Nat):Int)) (hs:Enc (u2 w) sl' sh' (alt (atT n) (j+1+1))) (hw:sh' - sl'≤sh - sl+3) :
  AtI n w (j+1) (pl / ((n*n:Nat):Int)) (cdiv ph ((n*n:Nat):Int)) sl' sh'∧cdiv ph ((n*n:Nat):Int)<ph:=by
 have hnn:4≤n*n:=Nat.mul_le_mul hn hn
 have h0:=h.p1
 have h1:1≤cdiv ph ((n*n:Nat):Int):=cd_ge (c:=0) xq xq
 have h2:=cd_self (b:=cdiv ph ((n*n:Nat):Int)) (d:=((2*j+3:Nat):Int)) xq xq
 have h3:=cd_self (b:=ph) (d:=((n*n:Nat):Int)) xq xq
 have h4:=cd_half (b:=ph) (d:=((n*n:Nat):Int)) xq xq
 refine ⟨⟨h.power xq,hs,fl_nn h.p0 xq,h1,h.pw' xq,by have:=h.sw;omega,?_⟩,by omega⟩
 have h5:u2 (j+1)=u2 j*2:=u2_add j 1
 have h6:=Int.mul_le_mul_of_nonneg_right h4 (Int.le_of_lt (u2_pos j))
 have h7:=h.fall
 rw[h5]
 have e:cdiv ph ((n*n:Nat):Int)*(u2 j*2)=2*cdiv ph ((n*n:Nat):Int)*u2 j:=by grind
 rw[e];omega
theorem AtI.out {sl' sh':Int} (h:AtI n w j pl ph sl sh) (hn:0<n) (ht:cdiv (cdiv ph ((n*n:Nat):Int)) ((2*j+3:Nat):Int)≤1) (hs:Enc (u2 w) sl' sh' (alt (atT n) (j+1+1))) (hw:sh' - sl'≤sh - sl+3):AtR n w (sl' - 1) (sh'+1):=by
 refine ⟨⟨j+1+1,fun m hm=>?_⟩,by have:=h.jw;have:=h.sw;omega⟩
 have h1:=alt_near (j0:=0) (atT_nn hn) (fun j _=>atT_le hn j) (Nat.zero_le _) hm
 refine hs.near h1.1 h1.2 ?_ (u2_pos w)
 have h2:=(h.term hn).2
 have h3:=Rat.mul_le_mul_of_nonneg_right (atT_le hn (j+1)) (Rat.le_of_lt (castI_pos (u2_pos w)))
 have h4:((cdiv (cdiv ph ((n*n:Nat):Int)) ((2*j+3:Nat):Int):Int):Rat)≤((1:Int):Rat):=Rat.intCast_le_intCast.2 ht
 have e:((1:Int):Rat)=1:=rfl
 rw[e] at h4
 exact Rat.le_trans h3 (Rat.le_trans h2 h4)
theorem AtI.bd (h:AtI n w j pl ph sl sh) (hn:0<n):ph≤u2 w ∧ -(3*((w:Int)+1))≤sl∧sl≤u2 w∧0≤sh∧sh≤u2 w+3*((w:Int)+1):=by
 have h1:=atT_b (n:=n) hn (m:=j+1) xq
 have h2:=atT_le hn 0
 have hU:=castI_pos (u2_pos w)
 have h3:alt (atT n) (j+1)≤1:=by
  refine Rat.le_trans h1.2 ?_
  have e:atT n 0=atP n 0 / ((2*0+1:Nat):Rat):=rfl
  rw[e]
  refine Rat.le_trans (div_le_self (atP_nn hn 0) (cast_one xq)) ?_
  show 1 / (n:Rat)≤1
  exact div_le_self yq (cast_one hn)
 have h4:alt (atT n) (j+1)*(u2 w:Rat)≤(u2 w:Rat):=by
  have:=Rat.mul_le_mul_of_nonneg_right h3 (Rat.le_of_lt hU)
  rwa [Rat.one_mul] at this
 have h5:=h.s.lo_le h4
 have h6:=h.s.nonneg (by grind) (u2_pos w)
 have h7:=h.sw
 have h8:=h.jw
 have h9:=h.fall
 have h10:=Int.mul_le_mul_of_nonneg_left (show 1≤u2 j by have:=u2_pos j;omega) (show 0≤ph by have:=h.p1;omega)
 refine ⟨by omega,by omega,h5,h6,by omega⟩
end
def PiR (w:Nat) (lo hi:Int):Prop:=(∃N:Nat,∀m,N≤m→Enc (u2 w) lo hi (piN m))∧hi - lo≤128*(w:Int)+400
theorem PiR.of {w:Nat} {a b c d:Int} (h:AtR 5 w a b) (k:AtR 239 w c d):PiR w (a*16 - d*4) (b*16 - c*4):=by
 obtain ⟨⟨N,h1⟩,h2⟩:=h
 obtain ⟨⟨M,k1⟩,k2⟩:=k
 refine ⟨⟨max N M,fun m hm=>?_⟩,by omega⟩
 have e:=((h1 m xq).times (n:=16)).sub ((k1 m xq).times (n:=4))
 have e2:piN m=alt (atT 5) m*((16:Nat):Rat) - alt (atT 239) m*((4:Nat):Rat):=by
  unfold piN
  rw[Rat.mul_comm,Rat.mul_comm 4];rfl
 rw[e2];exact e
theorem PiR.bd {w:Nat} {a b:Int} (h:PiR w a b) (hw:16≤w):0≤a∧b≤4*u2 w∧a≤b∧1≤b:=by
 obtain ⟨⟨N,h1⟩,h2⟩:=h
 have h3:=h1 (N+1) xq
 have h4:=piN_b (m:=N+1) xq
 have hU:=castI_pos (u2_pos w)
 have l8:=lin8 w hw
 have h5:3*u2 w≤b:=h3.le_hi (by
  rw[Rat.intCast_mul]
  refine Rat.mul_le_mul_of_nonneg_right (Rat.le_trans ?_ h4.1) (Rat.le_of_lt hU)
  decide +kernel)
 have h6:5*a≤16*u2 w:=by
  have h7:=Rat.mul_le_mul_of_nonneg_right h4.2 (Rat.le_of_lt hU)
  have h8:=h3.1
  refine Rat.intCast_le_intCast.1 ?_
  rw[Rat.intCast_mul,Rat.intCast_mul]
  have e5:((5:Int):Rat)=5:=rfl
  have e16:((16:Int):Rat)=16:=rfl
  rw[e5,e16]
  grind
 have:=h3.le
 have:=u2_pos w
 omega
end Nt
namespace Nt
theorem cdw {a b d W:Int} (hd:0<d) (h:b - a≤W*d):cdiv b d - a / d≤W+1:=by
 have h1:=cd_width (a:=a) (b:=b) hd
 rcases Int.lt_or_le (W+1) (cdiv b d - a / d) with h2 | h2
 ·have h3:=Int.mul_le_mul_of_nonneg_right (show W+2≤cdiv b d - a / d by omega) (show 0≤d by omega)
  rw[Int.add_mul] at h3
  omega
 exact h2
theorem prod_width {U a b c d W V A C:Int} (hU:0<U) (ha:0≤a) (hc:0≤c) (h1:b - a≤W) (h2:d - c≤V) (h3:a≤A*U) (h4:d≤C*U) (hA:0≤A) (hC:0≤C) (hW:0≤W) (hV:0≤V) (hab:a≤b) (hcd:c≤d):cdiv (b*d) U - a*c / U≤W*C+V*A+1:=by
 refine cdw hU ?_
 have e:b*d - a*c=(b - a)*d+(d - c)*a:=by grind
 have k1:(b - a)*d≤W*(C*U):=Int.le_trans (Int.mul_le_mul_of_nonneg_right h1 xq) (Int.mul_le_mul_of_nonneg_left h4 hW)
 have k2:(d - c)*a≤V*(A*U):=Int.le_trans (Int.mul_le_mul_of_nonneg_right h2 ha) (Int.mul_le_mul_of_nonneg_left h3 hV)
 have e2:(W*C+V*A)*U=W*(C*U)+V*(A*U):=by grind
 rw[e,e2];omega
def CsY (p q w:Nat) (lo hi:Int):Prop:=(∃N:Nat,∀m,N≤m→Enc (u2 w) lo hi (csY p q m))∧hi - lo≤128*(w:Int)+402∧0≤lo∧hi≤2*u2 w∧lo≤hi∧1≤hi
theorem csY_b {p q m:Nat} (hq:0<q) (hp:2*p≤q) (hm:1≤m):0≤csY p q m∧csY p q m≤8 / 5:=by
 have h1:=piN_b hm
 have hq':=cast_pos hq
 have hp0:(0:Rat)≤(p:Rat):=Rat.natCast_le_natCast.2 (Nat.zero_le p)
 have hpi0:0≤piN m:=Rat.le_trans (by decide +kernel) h1.1
 unfold csY
 refine ⟨div_nn (Rat.mul_nonneg hpi0 hp0) hq',dv_le hq' ?_⟩
 have h2:((2*p:Nat):Rat)≤(q:Rat):=Rat.natCast_le_natCast.2 hp
 rw[Rat.natCast_mul] at h2
 have e2:((2:Nat):Rat)=2:=rfl
 rw[e2] at h2
 have h3:=Rat.mul_le_mul_of_nonneg_right h1.2 hp0
 have h4:=Rat.mul_le_mul_of_nonneg_left (c:=(8 / 5:Rat)) h2 (by decide +kernel)
 have e3:(8 / 5:Rat)*(2*(p:Rat))=16 / 5*(p:Rat):=by grind
 rw[e3] at h4
 exact Rat.le_trans h3 h4
theorem CsY.of {p q w:Nat} {a b:Int} (h:PiR w a b) (hw:16≤w) (hq:0<q) (hp:2*p≤q) (hp1:1≤p):CsY p q w (a*(p:Int) / (q:Int)) (cdiv (b*(p:Int)) (q:Int)):=by
 obtain ⟨h0,h4,hab,hb1⟩:=h.bd hw
 obtain ⟨⟨N,h1⟩,h2⟩:=h
 have l8:=lin8 w hw
 have hU:=u2_pos w
 have E:∀m,N≤m→Enc (u2 w) (a*(p:Int) / (q:Int)) (cdiv (b*(p:Int)) (q:Int)) (csY p q m):=fun m hm=>((h1 m hm).times (n:=p)).over (d:=(q:Int)) xq
 have hwd:cdiv (b*(p:Int)) (q:Int) - a*(p:Int) / (q:Int)≤128*(w:Int)+402:=by
  have:=cdw (a:=a*(p:Int)) (b:=b*(p:Int)) (d:=(q:Int)) (W:=128*(w:Int)+400) xq (by
   rw[← Int.sub_mul]
   exact Int.le_trans (Int.mul_le_mul_of_nonneg_right h2 xq) (Int.mul_le_mul_of_nonneg_left (show (p:Int)≤(q:Int) by omega) xq))
  omega
 have hlo:0≤a*(p:Int) / (q:Int):=fl_nn (Int.mul_nonneg h0 xq) xq
 have e1:=E (N+1) xq
 have h5:5*(a*(p:Int) / (q:Int))≤8*u2 w:=by
  have h6:=csY_b (m:=N+1) hq hp xq
  have h7:=Rat.mul_le_mul_of_nonneg_right h6.2 (Rat.le_of_lt (castI_pos hU))
  have h8:=e1.1
  refine Rat.intCast_le_intCast.1 ?_
  rw[Rat.intCast_mul,Rat.intCast_mul]
  have e5:((5:Int):Rat)=5:=rfl
  have e16:((8:Int):Rat)=8:=rfl
  rw[e5,e16]
  grind
 have hbp:1≤b*(p:Int):=by
  have:=Int.mul_le_mul hb1 (show (1:Int)≤(p:Int) by omega) yq xq
  omega
 exact ⟨⟨N,E⟩,hwd,hlo,by omega,e1.le,cd_ge (c:=0) xq xq⟩
def CsQ (p q w:Nat) (lo hi:Int):Prop:=(∃N:Nat,∀m,N≤m→Enc (u2 w) lo hi (csY p q m*csY p q m))∧hi - lo≤512*(w:Int)+1609∧0≤lo∧hi≤4*u2 w∧lo≤hi∧1≤hi
theorem CsQ.of {p q w:Nat} {a b:Int} (h:CsY p q w a b):CsQ p q w (a*a / u2 w) (cdiv (b*b) (u2 w)):=by
 obtain ⟨⟨N,h1⟩,h2,h3,h4,h5,h51⟩:=h
 have hU:=u2_pos w
 have E:∀m,N≤m→Enc (u2 w) (a*a / u2 w) (cdiv (b*b) (u2 w)) (csY p q m*csY p q m):=fun m hm=>(h1 m hm).prod (h1 m hm) h3 h3 hU
 refine ⟨⟨N,E⟩,?_,fl_nn (Int.mul_nonneg h3 h3) hU,cd_le hU ?_,(E N qyl).le,cd_ge (c:=0) hU (by have:=Int.mul_le_mul h51 h51 yq xq;omega)⟩
 ·have:=prod_width (A:=2) (C:=2) hU h3 h3 h2 h2 xq h4 xq xq xq xq h5 h5
  omega
 have h6:=Int.mul_le_mul h4 h4 xq xq
 have e:2*u2 w*(2*u2 w)=4*u2 w*u2 w:=by grind
 rw[e] at h6;exact h6
def csW (w:Nat):Int:=512*(w:Int)+1611
structure CsT (p q w j:Nat) (tl th:Int):Prop where
 e:∃N:Nat,∀m,N≤m→Enc (u2 w) tl th (csT (csY p q m) j)
 t0:0≤tl
 t1:1≤th
 tt:tl≤th
 t2:th≤2*u2 w
 tw:th - tl≤csW w
 t00:j=0→tl=th∧th=u2 w
 fall:th*u2 j≤4*u2 w
theorem CsT.start {p q w:Nat}:CsT p q w 0 (u2 w) (u2 w):=by
 have hU:=u2_pos w
 refine ⟨⟨0,fun m _=>Enc.one⟩,by omega,by omega,by omega,by omega,?_,fun _=>⟨rfl,rfl⟩,?_⟩
 ·unfold csW;omega
 show u2 w*1≤_;omega
def coD (j:Nat):Int:=(((2*j+2)*(2*j+1):Nat):Int)
theorem coD_pos (j:Nat):2≤coD j:=by
 have:=Nat.mul_le_mul (show 2≤2*j+2 by omega) (show 1≤2*j+1 by omega)
 unfold coD;omega
theorem coD_12 {j:Nat} (hj:1≤j):12≤coD j:=by
 have:=Nat.mul_le_mul (show 4≤2*j+2 by omega) (show 3≤2*j+1 by omega)
 unfold coD;omega
def csL (w j:Nat) (tl ql:Int):Int:=tl*ql / u2 w / coD j
def csH (w j:Nat) (th qh:Int):Int:=cdiv (cdiv (th*qh) (u2 w)) (coD j)
section
variable {p q w j:Nat} {tl th ql qh:Int}
theorem CsT.jw (h:CsT p q w j tl th):j≤w+2:=by
 refine u2_le_iff (Int.le_trans ?_ (Int.le_trans h.fall (by rw[u2_add w 2];show 4*u2 w≤u2 w*4;omega)))
 have:=Int.mul_le_mul_of_nonneg_right h.t1 (Int.le_of_lt (u2_pos j))
 omega
theorem CsT.term (h:CsT p q w j tl th) (hq:CsQ p q w ql qh):∃N:Nat,∀m,N≤m→Enc (u2 w) (csL w j tl ql) (csH w j th qh) (csT (csY p q m) (j+1)):=by
 obtain ⟨N,h1⟩:=h.e
 obtain ⟨⟨M,k1⟩,k2,k3,k4,k5,k6⟩:=hq
 exact ⟨max N M,fun m hm=>(((h1 m xq).prod (k1 m xq) h.t0 k3 (u2_pos w)).over (by have:=coD_pos j;omega))⟩
theorem CsT.next (h:CsT p q w j tl th) (hq:CsQ p q w ql qh) (ht:j≤1∨2≤th):CsT p q w (j+1) (csL w j tl ql) (csH w j th qh)∧(1≤j→csH w j th qh≤th)∧(1≤j→2≤th→2*csH w j th qh≤th):=by
 have hE:=h.term hq
 have hU:=u2_pos w
 have hd:=coD_pos j
 obtain ⟨N,h1⟩:=id hE
 have hle:=(h1 N qyl).le
 obtain ⟨_,k2,k3,k4,k5,k6⟩:=hq
 have t0:=h.t0
 have t1:=h.t1
 have t2:=h.t2
 have tt:=h.tt
 have tw:=h.tw
 have hfl:=h.fall
 have g0:0≤csL w j tl ql:=fl_nn (fl_nn (Int.mul_nonneg t0 k3) hU) xq
 have g1:cdiv (th*qh) (u2 w)≤4*th:=cd_le hU (by
  have:=Int.mul_le_mul_of_nonneg_left k4 (show 0≤th by omega)
  have e:th*(4*u2 w)=4*th*u2 w:=by grind
  rw[e] at this;exact this)
 have g2:csH w j th qh≤2*th:=cd_le xq (by
  have:=Int.mul_le_mul_of_nonneg_left hd (show 0≤2*th by omega);omega)
 have g3:1≤j→csH w j th qh≤cdiv th 3:=fun hj=>cd_le xq (by
  have h5:=(cd_mul (b:=th) (d:=3) yq).1
  have h6:=Int.mul_le_mul_of_nonneg_left (coD_12 hj) (show 0≤cdiv th 3 by omega)
  omega)
 have g4:cdiv th 3≤th:=cd_self xq yq
 have g5:1≤th*qh:=by
  have:=Int.mul_le_mul t1 k6 yq xq
  omega
 have g6:1≤cdiv (th*qh) (u2 w):=cd_ge (c:=0) hU xq
 have g7:1≤csH w j th qh:=cd_ge (c:=0) xq xq
 have g8:1≤j→2≤th→2*csH w j th qh≤th:=fun hj h2=>by
  have h3:=g3 hj
  have h4:=cd_half (b:=th) (d:=3) h2 yq
  omega
 have g9:1≤j→csH w j th qh≤th:=fun hj=>Int.le_trans (g3 hj) g4
 have ab:csH w j th qh≤2*u2 w:=by
  by_cases hj:j=0
  ·rw[(h.t00 hj).2] at g2 ⊢
   exact g2
  have:=g9 xq;omega
 refine ⟨⟨hE,g0,g7,hle,ab,?_,by omega,?_⟩,g9,g8⟩
 ·by_cases hj:j=0
  ·obtain ⟨e1,e2⟩:=h.t00 hj
   have:=prod_width (A:=1) (C:=4) (W:=0) (V:=512*(w:Int)+1609) hU t0 k3 xq k2 xq k4 xq xq xq xq tt k5
   have h9:=cdw (a:=tl*ql / u2 w) (b:=cdiv (th*qh) (u2 w)) (d:=coD j) (W:=512*(w:Int)+1610) xq (by
    have:=Int.mul_le_mul_of_nonneg_left (show 1≤coD j by omega) (show 0≤512*(w:Int)+1610 by omega)
    omega)
   unfold csW csL csH;omega
  have aa:1≤j:=by omega
  have hd12:=coD_12 aa
  have:=prod_width (A:=2) (C:=4) (W:=csW w) (V:=512*(w:Int)+1609) hU t0 k3 tw k2 xq k4 xq xq (by unfold csW;omega) xq tt k5
  have h9:=cdw (a:=tl*ql / u2 w) (b:=cdiv (th*qh) (u2 w)) (d:=coD j) (W:=512*(w:Int)+1610) xq (by
   have:=Int.mul_le_mul_of_nonneg_left hd12 (show 0≤512*(w:Int)+1610 by omega)
   unfold csW at *
   omega)
  unfold csW csL csH;omega
 have e2:u2 (j+1)=u2 j*2:=u2_add j 1
 rw[e2]
 have e:csH w j th qh*(u2 j*2)=2*csH w j th qh*u2 j:=by grind
 rw[e]
 by_cases hj:j=0
 ·subst hj
  show 2*csH w 0 th qh*1≤_
  omega
 by_cases h2:2≤th
 ·have h4:=g8 xq h2
  exact Int.le_trans (Int.mul_le_mul_of_nonneg_right h4 (Int.le_of_lt (u2_pos j))) hfl
 have h4:=g9 xq
 obtain rfl:j=1:=by omega
 show 2*csH w 1 th qh*2≤_
 omega
end
structure CsI (p q w j:Nat) (tl th sl sh:Int):Prop where
 c:CsT p q w j tl th
 s:∃N:Nat,∀m,N≤m→Enc (u2 w) sl sh (alt (csT (csY p q m)) (j+1))
 sw:sh - sl≤csW w*(j:Int)
def CsR (p q w:Nat) (lo hi:Int):Prop:=(∃N:Nat,∀m,N≤m→Enc (u2 w) lo hi (coN p q m))∧hi - lo≤csW w*((w:Int)+4)+2
theorem CsI.start {p q w:Nat}:CsI p q w 0 (u2 w) (u2 w) (u2 w) (u2 w):=by
 refine ⟨CsT.start,⟨0,fun m _=>?_⟩,by omega⟩
 have:alt (csT (csY p q m)) (0+1)=1:=by show 0+(1:Rat)*1=1;decide +kernel
 rw[this];exact Enc.one
def csM (w j:Nat) (th:Int):Nat:=if j=0 then (4*u2 w).toNat else th.toNat
def CsS (w j:Nat) (tl th ql qh sl sh sl' sh':Int):Prop:=j%2=0∧sl'=sl - csH w j th qh∧sh'=sh - csL w j tl ql∨¬j%2=0∧sl'=sl+csL w j tl ql∧sh'=sh+csH w j th qh
section
variable {p q w j:Nat} {tl th sl sh ql qh sl' sh':Int}
theorem CsI.sum (h:CsI p q w j tl th sl sh) (hq:CsQ p q w ql qh) (hs:CsS w j tl th ql qh sl sh sl' sh'):(∃N:Nat,∀m,N≤m→Enc (u2 w) sl' sh' (alt (csT (csY p q m)) (j+1+1)))∧sh' - sl'=sh - sl+(csH w j th qh - csL w j tl ql):=by
 obtain ⟨N,h1⟩:=h.c.term hq
 obtain ⟨M,h2⟩:=h.s
 rcases hs with ⟨e,rfl,rfl⟩ | ⟨e,rfl,rfl⟩
 ·refine ⟨⟨max N M,fun m hm=>?_⟩,by omega⟩
  have e2:alt (csT (csY p q m)) (j+1+1)=alt (csT (csY p q m)) (j+1) - csT (csY p q m) (j+1):=by
   rw[alt_s];unfold sgn;rw[if_neg xq];grind
  rw[e2];exact (h2 m xq).sub (h1 m xq)
 refine ⟨⟨max N M,fun m hm=>?_⟩,by omega⟩
 have e2:alt (csT (csY p q m)) (j+1+1)=alt (csT (csY p q m)) (j+1)+csT (csY p q m) (j+1):=by
  rw[alt_s];unfold sgn;rw[if_pos xq];grind
 rw[e2];exact (h2 m xq).add (h1 m xq)
theorem CsI.go (h:CsI p q w j tl th sl sh) (hq:CsQ p q w ql qh) (ht:j=0∨2≤csH w j th qh) (hs:CsS w j tl th ql qh sl sh sl' sh') :
  CsI p q w (j+1) (csL w j tl ql) (csH w j th qh) sl' sh'∧csM w (j+1) (csH w j th qh)<csM w j th:=by
 have hT:1≤j→csH w j th qh≤th:=fun hj=>(h.c.next hq (by
  rcases Int.lt_or_le th 2 with h2 | h2
  ·exact .inl (by
    have hd:=coD_12 hj
    have hU:=u2_pos w
    have t1:=h.c.t1
    have k4:=hq.2.2.2.1
    have k1:csH w j th qh≤1:=cd_le xq (by
     have:cdiv (th*qh) (u2 w)≤4:=cd_le hU (by
      have e:th=1:=by omega
      rw[e,Int.one_mul];exact k4)
     omega)
    omega)
  exact .inr h2)).2.1 hj
 have hN:=h.c.next hq (by
  by_cases hj:j=0
  ·exact .inl xq
  have:=hT xq;exact .inr xq)
 obtain ⟨S1,S2⟩:=h.sum hq hs
 have hsw:=h.sw
 have hU:=u2_pos w
 have htw:=hN.1.tw
 have e:csW w*(((j+1:Nat)):Int)=csW w*(j:Int)+csW w:=by rw[Int.natCast_add,Int.mul_add];simp
 refine ⟨⟨hN.1,S1,by rw[e];omega⟩,?_⟩
 have ht2:=hN.1.t2
 unfold csM
 rw[if_neg xq]
 by_cases hj:j=0
 ·rw[if_pos hj];omega
 rw[if_neg hj]
 have h4:=hN.2.2 xq (by have:=hT xq;omega)
 omega
theorem cs_near {x:Nat→Rat} {m:Nat} {y:Rat} {j:Nat} (hy:0≤y∧y≤8 / 5) (hj:1≤j) (hm:j≤m):alt (csT y) j - csT y j≤alt (csT y) m∧alt (csT y) m≤alt (csT y) j+csT y j:=by
 have hyy:y*y≤12:=Rat.le_trans (mulm hy.2 hy.2 hy.1 hy.1) (by decide +kernel)
 exact alt_near (j0:=1) (csT_nn _) (csT_le hyy) hj hm
theorem CsI.out (h:CsI p q w j tl th sl sh) (hq:CsQ p q w ql qh) (h0:0<q) (hp:2*p≤q) (hj:1≤j) (ht:csH w j th qh≤1) (hs:CsS w j tl th ql qh sl sh sl' sh'):CsR p q w (sl' - 1) (sh'+1):=by
 obtain ⟨S1,S2⟩:=h.sum hq hs
 obtain ⟨M,h2⟩:=S1
 obtain ⟨N,h1⟩:=h.c.term hq
 have hU:=u2_pos w
 have hL:0≤csL w j tl ql:=fl_nn (fl_nn (Int.mul_nonneg h.c.t0 hq.2.2.1) hU) (by have:=coD_pos j;omega)
 refine ⟨⟨max (max N M) (j+2),fun m hm=>?_⟩,?_⟩
 ·have hy:=csY_b (m:=m) h0 hp xq
  have hyy:csY p q m*csY p q m≤12:=Rat.le_trans (mulm hy.2 hy.2 hy.1 hy.1) (by decide +kernel)
  have h3:=cs_near (x:=fun _=>0) (m:=m) (j:=j+1+1) hy xq xq
  have h4:=csT_le hyy (j+1) xq
  refine (h2 m xq).near h3.1 h3.2 ?_ hU
  have h5:=Rat.mul_le_mul_of_nonneg_right h4 (Rat.le_of_lt (castI_pos hU))
  have h6:((csH w j th qh:Int):Rat)≤((1:Int):Rat):=Rat.intCast_le_intCast.2 ht
  have e:((1:Int):Rat)=1:=rfl
  rw[e] at h6
  exact Rat.le_trans h5 (Rat.le_trans (h1 m xq).2 h6)
 have h6:=h.sw
 have h7:=h.c.jw
 have h8:=Int.mul_le_mul_of_nonneg_left (show (j:Int)+1≤(w:Int)+4 by omega) (show 0≤csW w by unfold csW;omega)
 rw[Int.mul_add] at h8
 have:1≤csW w:=by unfold csW;omega
 omega
theorem cs_bd {N:Nat} {m:Nat} (h0:0<q) (hp:2*p≤q) (hm:1≤m) (hj:1≤j) (h2:Enc (u2 w) sl sh (alt (csT (csY p q m)) j)):sl≤3*u2 w ∧ -(3*u2 w)≤sh:=by
 have hy:=csY_b (m:=m) h0 hp hm
 have h3:=cs_near (x:=fun _=>0) (j:=1) (m:=j) hy xq xq
 have hyy:=mulm hy.2 hy.2 hy.1 hy.1
 have e1:alt (csT (csY p q m)) 1=1:=by show 0+(1:Rat)*1=1;decide +kernel
 have h4:csT (csY p q m) 1≤2:=by
  show 1*(csY p q m*csY p q m) / (((2*0+2)*(2*0+1):Nat):Rat)≤2
  refine dv_le (cast_pos yq) ?_
  rw[Rat.one_mul]
  exact Rat.le_trans hyy (by decide +kernel)
 rw[e1] at h3
 have hU:=castI_pos (u2_pos w)
 have h5:alt (csT (csY p q m)) j*(u2 w:Rat)≤((3*u2 w:Int):Rat):=by
  rw[Rat.intCast_mul]
  refine Rat.mul_le_mul_of_nonneg_right ?_ (Rat.le_of_lt hU)
  have e:((3:Int):Rat)=3:=rfl
  rw[e];grind
 have h6:((-(3*u2 w):Int):Rat)≤alt (csT (csY p q m)) j*(u2 w:Rat):=by
  have e : -(3*u2 w)=(-3)*u2 w:=by omega
  rw[e,Rat.intCast_mul]
  refine Rat.mul_le_mul_of_nonneg_right ?_ (Rat.le_of_lt hU)
  have e:((-3:Int):Rat) = -3:=rfl
  rw[e];grind
 exact ⟨h2.lo_le h5,h2.le_hi h6⟩
theorem CsI.bd (h:CsI p q w j tl th sl sh) (h0:0<q) (hp:2*p≤q) : -(csW w*((w:Int)+2)) - 3*u2 w≤sl∧sl≤3*u2 w ∧ -(3*u2 w)≤sh∧sh≤3*u2 w+csW w*((w:Int)+2):=by
 obtain ⟨N,h1⟩:=h.s
 have h2:=cs_bd (N:=N) (m:=N+1) h0 hp xq xq (h1 (N+1) xq)
 have h9:=h.sw
 have h10:=h.c.jw
 have h11:=Int.mul_le_mul_of_nonneg_left (show (j:Int)≤(w:Int)+2 by omega) (show 0≤csW w by unfold csW;omega)
 omega
end
def FlO (X:Nat→Rat) (b:Nat) (z:Int):Prop:=∃N:Nat,∀m,N≤m→(z:Rat)≤X m*(u2 b:Rat)∧X m*(u2 b:Rat)<((z+1:Int):Rat)
theorem FlO.uniq {X:Nat→Rat} {b:Nat} {y z:Int} (h:FlO X b y) (k:FlO X b z):y=z:=by
 obtain ⟨N,h⟩:=h
 obtain ⟨M,k⟩:=k
 have h1:=h (max N M) xq
 have k1:=k (max N M) xq
 have a:=Rat.intCast_lt_intCast.1 (Std.lt_of_le_of_lt h1.1 k1.2)
 have c:=Rat.intCast_lt_intCast.1 (Std.lt_of_le_of_lt k1.1 h1.2)
 omega
theorem FlO.of {X:Nat→Rat} {b w:Nat} {lo hi z:Int} (h:∃N:Nat,∀m,N≤m→Enc (u2 w) lo hi (X m)) (hb:b≤w) (h1:lo / u2 (w - b)=z) (h2:hi / u2 (w - b)=z):FlO X b z:=by
 obtain ⟨N,h⟩:=h
 refine ⟨N,fun m hm=>?_⟩
 have h3:=h m hm
 have hp:=u2_pos (w - b)
 have e:u2 w=u2 b*u2 (w - b):=by rw[← u2_add,show b+(w - b)=w by omega]
 have k1:=(fl_mul (a:=lo) hp).1
 have k2:=Int.lt_ediv_add_one_mul_self hi hp
 rw[h1] at k1
 rw[h2] at k2
 have r1:=Rat.intCast_le_intCast.2 k1
 have r2:=Rat.intCast_lt_intCast.2 k2
 rw[Rat.intCast_mul] at r1 r2
 obtain ⟨h4,h5⟩:=h3
 rw[e,Rat.intCast_mul,← Rat.mul_assoc] at h4 h5
 refine ⟨Rat.le_of_mul_le_mul_right (Rat.le_trans r1 h4) (castI_pos hp),?_⟩
 by_cases h6:X m*(u2 b:Rat)<((z+1:Int):Rat)
 ·exact h6
 have h7:=Rat.mul_le_mul_of_nonneg_right (Rat.not_lt.1 h6) (Rat.le_of_lt (castI_pos hp))
 exact absurd (Std.lt_of_le_of_lt (Rat.le_trans h7 h5) r2) (by grind)
def Gap (X:Nat→Rat) (b g:Nat):Prop:=b≤g∧∃ (z:Int) (N:Nat),∀m,N≤m→((z*u2 (g - b)+1:Int):Rat)≤X m*(u2 g:Rat)∧X m*(u2 g:Rat)≤((z*u2 (g - b)+u2 (g - b) - 1:Int):Rat)
theorem Gap.decides {X:Nat→Rat} {b g w:Nat} {lo hi:Int} (h0:Gap X b g) (h:∃N:Nat,∀m,N≤m→Enc (u2 w) lo hi (X m)) (hb:g≤w) (hw:hi - lo<u2 (w - g)):lo / u2 (w - b)=hi / u2 (w - b):=by
 obtain ⟨hbg,z,N,g0⟩:=h0
 obtain ⟨M,h⟩:=h
 have g1:=g0 (max N M) xq
 have h1:=h (max N M) xq
 have e:u2 w=u2 g*u2 (w - g):=by rw[← u2_add,show g+(w - g)=w by omega]
 have e2:u2 (w - b)=u2 (g - b)*u2 (w - g):=by rw[← u2_add,show g - b+(w - g)=w - b by omega]
 have hs:=u2_pos (w - g)
 have hB:=u2_pos (g - b)
 generalize u2 (w - g)=s at *
 generalize u2 (g - b)=B at *
 obtain ⟨h4,h5⟩:=h1
 rw[e,Rat.intCast_mul,← Rat.mul_assoc] at h4 h5
 have r1:=Rat.mul_le_mul_of_nonneg_right g1.1 (Rat.le_of_lt (castI_pos hs))
 have r2:=Rat.mul_le_mul_of_nonneg_right g1.2 (Rat.le_of_lt (castI_pos hs))
 rw[← Rat.intCast_mul] at r1 r2
 have k1:=Rat.intCast_le_intCast.1 (Rat.le_trans r1 h5)
 have k2:=Rat.intCast_le_intCast.1 (Rat.le_trans h4 r2)
 have hS:0<B*s:=Int.mul_pos hB hs
 have e3:(z*B+1)*s=z*(B*s)+s:=by grind
 have e4:(z*B+B - 1)*s=z*(B*s)+B*s - s:=by grind
 rw[e3] at k1
 rw[e4] at k2
 have f:∀y:Int,z*(B*s)≤y→y<z*(B*s)+B*s→y / u2 (w - b)=z:=fun y h1 h2=>by
  rw[e2]
  have a1:=Int.le_ediv_of_mul_le hS h1
  have a2:y / (B*s)<z+1:=Int.ediv_lt_of_lt_mul hS (by rw[Int.add_mul,Int.one_mul];exact h2)
  omega
 have hle:lo≤hi:=(h (max N M) xq).le
 rw[f lo xq xq,f hi xq xq]
theorem Gap.lower {X:Nat→Rat} {b c g:Nat} (h:Gap X b g) (hc:c≤b):Gap X c g:=by
 obtain ⟨hbg,z,N,h⟩:=h
 have e:u2 (g - c)=u2 (g - b)*u2 (b - c):=by rw[← u2_add,show g - b+(b - c)=g - c by omega]
 have hB:=u2_pos (g - b)
 have hC:=u2_pos (b - c)
 have h1:=(fl_mul (a:=z) hC).1
 have h2:=Int.lt_ediv_add_one_mul_self z hC
 refine ⟨by omega,z / u2 (b - c),N,fun m hm=>?_⟩
 have h3:=h m hm
 rw[e]
 generalize z / u2 (b - c)=y at *
 generalize u2 (b - c)=C at *
 generalize u2 (g - b)=B at *
 refine ⟨Rat.le_trans (Rat.intCast_le_intCast.2 ?_) h3.1,Rat.le_trans h3.2 (Rat.intCast_le_intCast.2 ?_)⟩
 ·have:=Int.mul_le_mul_of_nonneg_right h1 (Int.le_of_lt hB)
  have e2:y*(B*C)=y*C*B:=by grind
  omega
 have:=Int.mul_le_mul_of_nonneg_right (show z+1≤(y+1)*C by omega) (Int.le_of_lt hB)
 have e2:y*(B*C)+B*C=(y+1)*C*B:=by grind
 rw[Int.add_mul] at this
 omega
theorem Gap.of {X:Nat→Rat} {b g w:Nat} {lo hi:Int} (h:∃N:Nat,∀m,N≤m→Enc (u2 w) lo hi (X m)) (z:Int) (hb:b≤g) (hg:g≤w) (h1:(z*u2 (g - b)+1)*u2 (w - g)≤lo) (h2:hi≤(z*u2 (g - b)+u2 (g - b) - 1)*u2 (w - g)):Gap X b g:=by
 obtain ⟨N,h⟩:=h
 have e:u2 w=u2 g*u2 (w - g):=by rw[← u2_add,show g+(w - g)=w by omega]
 have hs:=castI_pos (u2_pos (w - g))
 refine ⟨hb,z,N,fun m hm=>?_⟩
 obtain ⟨h4,h5⟩:=h m hm
 rw[e,Rat.intCast_mul,← Rat.mul_assoc] at h4 h5
 have k1:=Rat.le_trans (Rat.intCast_le_intCast.2 h1) h4
 have k2:=Rat.le_trans h5 (Rat.intCast_le_intCast.2 h2)
 rw[Rat.intCast_mul] at k1 k2
 exact ⟨Rat.le_of_mul_le_mul_right k1 hs,Rat.le_of_mul_le_mul_right k2 hs⟩
end Nt
namespace Nt
def force {α:Type} (n:Nat) (k:Nat→α):α:=Nat.rec (k 0) (fun m _=>k (m+1)) n
theorem force_eq {α:Type} (n:Nat) (k:Nat→α):force n k=k n:=by cases n<;>rfl
def cdn (a d:Nat):Nat:=(a+d - 1) / d
theorem cdn_cdiv {a d:Nat} (hd:0<d):((cdn a d:Nat):Int)=cdiv (a:Int) (d:Int):=by
 have h1:=cd_mul (b:=(a:Int)) (d:=(d:Int)) xq
 have h2:=Nat.div_mul_le_self (a+d - 1) d
 have h3:=Nat.lt_div_mul_add (a:=a+d - 1) hd
 have e:cdn a d=(a+d - 1) / d:=rfl
 rw[← e] at h2 h3
 have k1:((cdn a d:Nat):Int)*(d:Int)<(cdiv (a:Int) (d:Int)+1)*(d:Int):=by
  rw[Int.add_mul,← Int.natCast_mul];omega
 have k2:cdiv (a:Int) (d:Int)*(d:Int)<(((cdn a d:Nat):Int)+1)*(d:Int):=by
  rw[Int.add_mul,← Int.natCast_mul];omega
 have k3:=Int.lt_of_mul_lt_mul_right k1 xq
 have k4:=Int.lt_of_mul_lt_mul_right k2 xq
 omega
def sumAB (a:Nat→Rat):Nat→Rat×Rat
 | 0=>(0,0)
 | n+1=>((sumAB a n).2,(sumAB a n).1+a n)
theorem alt_AB (a:Nat→Rat) (n:Nat):alt a n=sgn n*((sumAB a n).1 - (sumAB a n).2):=by
 induction n with
 | zero=>show (0:Rat)=1*(0 - 0);decide +kernel
 | succ n ih =>
  rw[alt_s,ih,sgn_s]
  show _ = -sgn n*((sumAB a n).2 - ((sumAB a n).1+a n))
  grind
structure EvS where
 (l h el eh ol oh:Nat)
def EvI (U:Int) (a t:Nat→Rat) (k:Nat) (s:EvS):Prop:=Enc U (s.l:Int) (s.h:Int) (t k)∧Enc U (s.el:Int) (s.eh:Int) (sumAB a k).1∧Enc U (s.ol:Int) (s.oh:Int) (sumAB a k).2
def atEv (nn:Nat) (r:Nat):Nat→Nat→Nat→Nat→Nat→Nat→Nat→EvS :=
 Nat.rec (fun _ l h el eh ol oh=>⟨l,h,el,eh,ol,oh⟩)
  (fun _ ih k l h el eh ol oh =>
   force (l / nn) fun l'=>force (cdn h nn) fun h'=>force (2*k+1) fun d=>force (l / d) fun tl=>force (cdn h d) fun th =>
   force (el+tl) fun el'=>force (eh+th) fun eh'=>ih (k+1) l' h' ol oh el' eh') r
theorem Enc.overN {U:Int} {a b d:Nat} {x:Rat} (h:Enc U (a:Int) (b:Int) x) (hd:0<d):Enc U ((a / d:Nat):Int) ((cdn b d:Nat):Int) (x / (d:Rat)):=by
 rw[cdn_cdiv hd]
 exact h.over (d:=(d:Int)) xq
theorem atEv_ok {n:Nat} (hn:0<n) {U:Int}:∀r k l h el eh ol oh,EvI U (atT n) (atP n) k ⟨l,h,el,eh,ol,oh⟩→EvI U (atT n) (atP n) (k+r) (atEv (n*n) r k l h el eh ol oh):=by
 intro r
 induction r with
 | zero=>intro k l h el eh ol oh hi;exact hi
 | succ r ih =>
  intro k l h el eh ol oh hi
  obtain ⟨h1,h2,h3⟩:=hi
  have t:Enc U ((l / (2*k+1):Nat):Int) ((cdn h (2*k+1):Nat):Int) (atT n k):=h1.overN xq
  have p:Enc U ((l / (n*n):Nat):Int) ((cdn h (n*n):Nat):Int) (atP n (k+1)):=h1.overN (Nat.mul_pos hn hn)
  have e0:atEv (n*n) (r+1) k l h el eh ol oh=force (l / (n*n)) fun l'=>force (cdn h (n*n)) fun h'=>force (2*k+1) fun d=>force (l / d) fun tl=>force (cdn h d) fun th=>force (el+tl) fun el'=>force (eh+th) fun eh'=>atEv (n*n) r (k+1) l' h' ol oh el' eh':=rfl
  have e:atEv (n*n) (r+1) k l h el eh ol oh=atEv (n*n) r (k+1) (l / (n*n)) (cdn h (n*n)) ol oh (el+l / (2*k+1)) (eh+cdn h (2*k+1)):=by
   rw[e0];simp only[force_eq]
  rw[show k+(r+1)=k+1+r by omega,e]
  exact ih (k+1) _ _ _ _ _ _ ⟨p,h3,h2.add t⟩
theorem ev_late {U:Int} {a:Nat→Rat} {k j0 e:Nat} {s:EvS} (hU:0<U) (h0:∀j,0≤a j) (hd:∀j,j0≤j→a (j+1)≤a j) (hk:j0≤k) (hk2:k%2=0) (h1:Enc U (s.el:Int) (s.eh:Int) (sumAB a k).1) (h2:Enc U (s.ol:Int) (s.oh:Int) (sumAB a k).2) (he:a k*(U:Rat)≤(e:Rat)):∀m,k≤m→Enc U ((s.el:Int) - (s.oh:Int) - (e:Int)) ((s.eh:Int) - (s.ol:Int)+(e:Int)) (alt a m):=by
 intro m hm
 have h3:=alt_near h0 hd hk hm
 have h4:=h1.sub h2
 have e4:(sumAB a k).1 - (sumAB a k).2=alt a k:=by
  rw[alt_AB];unfold sgn;rw[if_pos hk2,Rat.one_mul]
 rw[e4] at h4
 obtain ⟨g1,g2⟩:=h4
 have hUr:=Rat.le_of_lt (castI_pos hU)
 have k3:=Rat.mul_le_mul_of_nonneg_right h3.1 hUr
 have k4:=Rat.mul_le_mul_of_nonneg_right h3.2 hUr
 have ee:(((e:Nat):Int):Rat)=(e:Rat):=rfl
 unfold Enc
 rw[Rat.intCast_sub ((s.el:Int) - (s.oh:Int)),Rat.intCast_add,ee]
 constructor<;>grind
def atB (n w r:Nat):Int×Int :=
 let x:=atEv (n*n) r 0 (2^w / n) (cdn (2^w) n) 0 0 0 0
 ((x.el:Int) - (x.oh:Int) - (x.h:Int),(x.eh:Int) - (x.ol:Int)+(x.h:Int))
theorem Enc.zero (U:Int):Enc U ((0:Nat):Int) ((0:Nat):Int) 0:=by
 show ((0:Int):Rat)≤0*(U:Rat)∧(0:Rat)*(U:Rat)≤((0:Int):Rat)
 rw[Rat.zero_mul]
 exact ⟨Rat.le_refl,Rat.le_refl⟩
theorem atB_ok {n w r:Nat} (hn:0<n) (hr:r%2=0):∀m,r≤m→Enc (u2 w) (atB n w r).1 (atB n w r).2 (alt (atT n) m):=by
 have h1:Enc (u2 w) ((2^w / n:Nat):Int) ((cdn (2^w) n:Nat):Int) (atP n 0):=Enc.overN (a:=2^w) (b:=2^w) Enc.one hn
 obtain ⟨e2,e3,e4⟩:=atEv_ok hn (U:=u2 w) r 0 _ _ _ _ _ _ ⟨h1,Enc.zero _,Enc.zero _⟩
 rw[Nat.zero_add] at e2 e3 e4
 intro m hm
 refine ev_late (u2_pos w) (atT_nn hn) (fun j _=>atT_le hn j) (Nat.zero_le _) hr e3 e4 ?_ m hm
 have hle:atT n r≤atP n r:=div_le_self (atP_nn hn r) (cast_one xq)
 exact Rat.le_trans (Rat.mul_le_mul_of_nonneg_right hle (Rat.le_of_lt (castI_pos (u2_pos w)))) e2.2
def piB (w r s:Nat):Int×Int :=
 let a:=atB 5 w r
 let b:=atB 239 w s
 (a.1*16 - b.2*4,a.2*16 - b.1*4)
theorem piB_ok {w r s:Nat} (hr:r%2=0) (hs:s%2=0):∀m,r+s≤m→Enc (u2 w) (piB w r s).1 (piB w r s).2 (piN m):=by
 intro m hm
 have e:=((atB_ok (n:=5) (w:=w) yq hr m xq).times (n:=16)).sub ((atB_ok (n:=239) (w:=w) yq hs m xq).times (n:=4))
 have e2:piN m=alt (atT 5) m*((16:Nat):Rat) - alt (atT 239) m*((4:Nat):Rat):=by
  unfold piN
  rw[Rat.mul_comm,Rat.mul_comm 4];rfl
 rw[e2];exact e
def csEv (U ql qh r:Nat):Nat→Nat→Nat→Nat→Nat→Nat→Nat→EvS :=
 Nat.rec (fun _ l h el eh ol oh=>⟨l,h,el,eh,ol,oh⟩)
  (fun _ ih k l h el eh ol oh =>
   force ((2*k+2)*(2*k+1)) fun d=>force (l*ql / U / d) fun l'=>force (cdn (cdn (h*qh) U) d) fun h' =>
   force (el+l) fun el'=>force (eh+h) fun eh'=>ih (k+1) l' h' ol oh el' eh') r
theorem Enc.prodN {U a b c d:Nat} {x y:Rat} (hU:0<U) (h:Enc (U:Int) (a:Int) (b:Int) x) (k:Enc (U:Int) (c:Int) (d:Int) y):Enc (U:Int) ((a*c / U:Nat):Int) ((cdn (b*d) U:Nat):Int) (x*y):=by
 rw[cdn_cdiv hU]
 exact h.prod k xq xq xq
theorem csEv_ok {U ql qh:Nat} (hU:0<U) {y:Rat} (hq:Enc (U:Int) (ql:Int) (qh:Int) (y*y)):∀r k l h el eh ol oh,EvI (U:Int) (csT y) (csT y) k ⟨l,h,el,eh,ol,oh⟩→EvI (U:Int) (csT y) (csT y) (k+r) (csEv U ql qh r k l h el eh ol oh):=by
 intro r
 induction r with
 | zero=>intro k l h el eh ol oh hi;exact hi
 | succ r ih =>
  intro k l h el eh ol oh hi
  obtain ⟨h1,h2,h3⟩:=hi
  have p:Enc (U:Int) ((l*ql / U / ((2*k+2)*(2*k+1)):Nat):Int) ((cdn (cdn (h*qh) U) ((2*k+2)*(2*k+1)):Nat):Int) (csT y (k+1)):=(Enc.prodN hU h1 hq).overN (Nat.mul_pos xq xq)
  have e0:csEv U ql qh (r+1) k l h el eh ol oh=force ((2*k+2)*(2*k+1)) fun d=>force (l*ql / U / d) fun l'=>force (cdn (cdn (h*qh) U) d) fun h'=>force (el+l) fun el'=>force (eh+h) fun eh'=>csEv U ql qh r (k+1) l' h' ol oh el' eh':=rfl
  have e:csEv U ql qh (r+1) k l h el eh ol oh=csEv U ql qh r (k+1) (l*ql / U / ((2*k+2)*(2*k+1))) (cdn (cdn (h*qh) U) ((2*k+2)*(2*k+1))) ol oh (el+l) (eh+h):=by
   rw[e0];simp only[force_eq]
  rw[show k+(r+1)=k+1+r by omega,e]
  exact ih (k+1) _ _ _ _ _ _ ⟨p,h3,h2.add h1⟩
def csX (U pl ph r p q:Nat):EvS :=
 force (pl*p / q) fun yl=>force (cdn (ph*p) q) fun yh=>force (yl*yl / U) fun ql=>force (cdn (yh*yh) U) fun qh=>csEv U ql qh r 0 U U 0 0 0 0
def xLo (x:EvS):Int:=(x.el:Int) - (x.oh:Int) - (x.h:Int)
def xHi (x:EvS):Int:=(x.eh:Int) - (x.ol:Int)+(x.h:Int)
theorem csX_ok {w pl ph r p q N:Nat} (hpi:∀m,N≤m→Enc (u2 w) (pl:Int) (ph:Int) (piN m)) (hq:0<q) (hp:2*p≤q) (hr:1≤r) (hr2:r%2=0):∀m,max N r≤m→Enc (u2 w) (xLo (csX (2^w) pl ph r p q)) (xHi (csX (2^w) pl ph r p q)) (coN p q m):=by
 intro m hm
 have hU:0<2^w:=Nat.pow_pos yq
 have hy:=csY_b (m:=m) hq hp xq
 have hyy:csY p q m*csY p q m≤12:=Rat.le_trans (mulm hy.2 hy.2 hy.1 hy.1) (by decide +kernel)
 have y1:Enc (((2^w:Nat):Nat):Int) ((pl*p / q:Nat):Int) ((cdn (ph*p) q:Nat):Int) (csY p q m):=by
  have h1:=(hpi m xq).times (n:=p)
  rw[← Int.natCast_mul,← Int.natCast_mul] at h1
  exact h1.overN hq
 have q1:=Enc.prodN hU y1 y1
 have hE:=csEv_ok hU q1 r 0 (2^w) (2^w) 0 0 0 0 ⟨Enc.one,Enc.zero _,Enc.zero _⟩
 rw[Nat.zero_add] at hE
 obtain ⟨e1,e2,e3⟩:=hE
 unfold csX
 simp only[force_eq]
 exact ev_late (u2_pos w) (csT_nn _) (csT_le hyy) hr hr2 e2 e3 e1.2 m xq
end Nt
set_option maxRecDepth 20000
namespace Nt
theorem pi_ev:piB 340 84 24=(7036365627942155232378451105383714118229498621515162138157626346021022039982006998243213719805928137372,7036365627942155232378451105383714118229498621515162138157626346021022039982006998243213719805928138852):=by decide +kernel
def pl8:Nat:=1069028584064966747859680373161870783300
def ph8:Nat:=1069028584064966747859680373161870783301
theorem pi_340:∀m,110≤m→Enc (u2 340) 7036365627942155232378451105383714118229498621515162138157626346021022039982006998243213719805928137372 7036365627942155232378451105383714118229498621515162138157626346021022039982006998243213719805928138852 (piN m):=fun m hm=>by
 have h:=piB_ok (w:=340) (r:=84) (s:=24) yq yq m xq
 rw[pi_ev] at h
 exact h
theorem pi_128:∀m,110≤m→Enc (u2 128) (pl8:Int) (ph8:Int) (piN m):=fun m hm=>by
 have h:=pi_340 m hm
 have hp:=castI_pos (u2_pos 212)
 have e:u2 340=u2 128*u2 212:=by rw[← u2_add]
 obtain ⟨h1,h2⟩:=h
 rw[e,Rat.intCast_mul,← Rat.mul_assoc] at h1 h2
 have k1:((pl8:Int)*u2 212:Int)≤7036365627942155232378451105383714118229498621515162138157626346021022039982006998243213719805928137372:=by decide +kernel
 have k2:(7036365627942155232378451105383714118229498621515162138157626346021022039982006998243213719805928138852:Int)≤(ph8:Int)*u2 212:=by decide +kernel
 have r1:=Rat.le_trans (Rat.intCast_le_intCast.2 k1) h1
 have r2:=Rat.le_trans h2 (Rat.intCast_le_intCast.2 k2)
 rw[Rat.intCast_mul] at r1 r2
 exact ⟨Rat.le_of_mul_le_mul_right r1 hp,Rat.le_of_mul_le_mul_right r2 hp⟩
def cs8 (p q:Nat):EvS:=csX (2^128) pl8 ph8 16 p q
theorem cs8_ok {p q:Nat} (hq:0<q) (hp:2*p≤q):∃N:Nat,∀m,N≤m→Enc (u2 128) (xLo (cs8 p q)) (xHi (cs8 p q)) (coN p q m):=⟨_,csX_ok pi_128 hq hp yq yq⟩
def gapX (B S T:Nat) (x:EvS):Bool :=
 force (x.el - x.oh - x.h) fun lo=>force (x.eh+x.h - x.ol) fun hi=>force (lo / T) fun z =>
  Nat.ble 1 lo&&(Nat.ble ((z*B+1)*S) lo&&Nat.ble hi ((z*B+B - 1)*S))
def gapB (p q b g:Nat):Bool:=gapX (2^(g - b)) (2^(128 - g)) (2^(128 - b)) (cs8 p q)
theorem gapB_ok {p q b g:Nat} (h:gapB p q b g=true) (hq:0<q) (hp:2*p≤q) (hb:b≤g) (hg:g≤128):Gap (coN p q) b g:=by
 unfold gapB gapX at h
 simp only[force_eq,Bool.and_eq_true,Nat.ble_eq] at h
 obtain ⟨h1,h2,h3⟩:=h
 have k:=cs8_ok hq hp
 generalize cs8 p q=x at *
 have e1:xLo x=((x.el - x.oh - x.h:Nat):Int):=by unfold xLo;omega
 have e2:xHi x≤((x.eh+x.h - x.ol:Nat):Int):=by unfold xHi;omega
 generalize x.el - x.oh - x.h=lo at *
 generalize x.eh+x.h - x.ol=hi at *
 have hB:=Nat.pow_pos (n:=g - b) (show 0<2 by decide)
 refine Gap.of k ((lo / 2^(128 - b):Nat):Int) hb hg ?_ ?_
 ·rw[e1]
  have:=Int.ofNat_le.2 h2
  rw[Int.natCast_mul,Int.natCast_add,Int.natCast_mul] at this
  exact this
 refine Int.le_trans e2 ?_
 have:=Int.ofNat_le.2 h3
 rw[Int.natCast_mul,Int.natCast_sub xq,Int.natCast_add,Int.natCast_mul] at this
 exact this
def gapP (b g q n:Nat):Bool:=Nat.rec true (fun p ih=>(bif Nat.ble (2*p+3) q then bif Nat.beq (3*p+3) q then true else gapB (p+1) q b g else true)&&ih) n
def gapN (b g n:Nat):Bool:=Nat.rec true (fun q ih=>gapP b g (q+1) ((q+1) / 2)&&ih) n
theorem gapP_s (b g q n:Nat):gapP b g q (n+1)=((bif Nat.ble (2*n+3) q then bif Nat.beq (3*n+3) q then true else gapB (n+1) q b g else true)&&gapP b g q n):=rfl
theorem gapN_s (b g n:Nat):gapN b g (n+1)=(gapP b g (n+1) ((n+1) / 2)&&gapN b g n):=rfl
theorem gapP_ok {b g q:Nat}:∀n p,gapP b g q n=true→1≤p→p≤n→2*p<q→3*p≠q→gapB p q b g=true:=by
 intro n
 induction n with
 | zero=>intro p _ h1 h2;omega
 | succ n ih =>
  intro p h h1 h2 h3 h4
  have h':=h
  rw[gapP_s,Bool.and_eq_true] at h'
  by_cases e:p=n+1
  ·subst e
   have h5:=h'.1
   rw[show Nat.ble (2*n+3) q=true by rw[Nat.ble_eq];omega,show Nat.beq (3*n+3) q=false by
    cases hh:Nat.beq (3*n+3) q with
    | false=>rfl
    | true=>exact absurd (Nat.eq_of_beq_eq_true hh) xq,cond_true,cond_false] at h5
   exact h5
  exact ih p h'.2 h1 xq h3 h4
theorem gapN_ok {b g:Nat}:∀n q,gapN b g n=true→1≤q→q≤n→gapP b g q (q / 2)=true:=by
 intro n
 induction n with
 | zero=>intro q _ h1 h2;omega
 | succ n ih =>
  intro q h h1 h2
  have h':=h
  rw[gapN_s,Bool.and_eq_true] at h'
  by_cases e:q=n+1
  ·subst e;exact h'.1
  exact ih q h'.2 h1 xq
def GapQ (q b:Nat):Prop:=∃g,g≤300∧∀p,1≤p→2*p<q→3*p≠q→Gap (coN p q) b g
theorem gapQ_of {b g n q:Nat} (h:gapN b g n=true) (hb:b≤g) (hg:g≤128) (h1:1≤q) (hq:q≤n):GapQ q b :=
 ⟨g,by omega,fun p hp1 hp h3=>gapB_ok (gapP_ok _ p (gapN_ok n q h xq hq) hp1 xq hp h3) xq xq hb hg⟩
theorem GapQ.lower {q b c:Nat} (h:GapQ q b) (hc:c≤b):GapQ q c:=by
 obtain ⟨g,hg,h⟩:=h
 exact ⟨g,hg,fun p h1 h2 h3=>(h p h1 h2 h3).lower hc⟩
theorem gap_all:gapN 59 70 80=true:=by decide +kernel
theorem gapQ_80 {q b:Nat} (h1:1≤q) (hq:q≤80) (hb:b≤59):GapQ q b:=(gapQ_of gap_all yq yq h1 hq).lower hb
end Nt
namespace Nt
section
variable {a1 a2 b1 b2 c1 c2 d1 d2:Rat}
def hl (a b c d:Rat):Rat:=lo (lo a b) (lo c d)
def hh (a b c d:Rat):Rat:=hi (hi a b) (hi c d)
def sql (a b:Rat):Rat:=if sgI a b=0 then 0 else lo (a*a) (b*b)
def sqh (a b:Rat):Rat:=hi (a*a) (b*b)
end
end Nt
namespace Nt
theorem flr_div {z d:Int} (hd:0<d):flr ((z:Rat) / (d:Rat))=z / d:=by
 obtain ⟨D,rfl⟩:∃D:Nat,d=(D:Int):=⟨d.toNat,by omega⟩
 rw[mk_div,flr_mk xq]
def flU (w:Nat) (x:Rat):Int:=flr (x*(u2 w:Rat))
def ceU (w:Nat) (x:Rat):Int := -flr (-(x*(u2 w:Rat)))
theorem flU_eq {w:Nat} {x:Rat} {z d:Int} (hd:0<d) (h:x*(u2 w:Rat)=(z:Rat) / (d:Rat)):flU w x=z / d:=by unfold flU;rw[h,flr_div hd]
theorem ceU_eq {w:Nat} {x:Rat} {z d:Int} (hd:0<d) (h:x*(u2 w:Rat)=(z:Rat) / (d:Rat)):ceU w x=cdiv z d:=by
 unfold ceU cdiv
 have e : -((z:Rat) / (d:Rat))=((-z:Int):Rat) / (d:Rat):=by rw[Rat.intCast_neg,Rat.div_def,Rat.div_def,Rat.neg_mul]
 rw[h,e,flr_div hd]
theorem flr_b (q:Rat):((flr q:Int):Rat)≤q∧q<((flr q+1:Int):Rat):=by
 have hd:(0:Int)<(q.den:Int):=by have:=q.den_pos;omega
 have e:q=(q.num:Rat) / ((q.den:Int):Rat):=by
  rw[mk_div];exact (Rat.mkRat_self q).symm
 have h1:=(fl_mul (a:=q.num) hd).1
 have h2:=Int.lt_ediv_add_one_mul_self q.num hd
 have hD:=castI_pos hd
 have k1:=Rat.intCast_le_intCast.2 h1
 have k2:=Rat.intCast_lt_intCast.2 h2
 rw[Rat.intCast_mul] at k1 k2
 have e2:(q.num:Rat)=q*((q.den:Int):Rat):=by
  have:=div_mul_c (x:=(q.num:Rat)) hD
  rw[← e] at this
  exact this.symm
 rw[e2] at k1 k2
 refine ⟨Rat.le_of_mul_le_mul_right k1 hD,?_⟩
 by_cases h6:q<((flr q+1:Int):Rat)
 ·exact h6
 have h7:=Rat.mul_le_mul_of_nonneg_right (Rat.not_lt.1 h6) (Rat.le_of_lt hD)
 exact absurd k2 (Rat.not_lt.2 h7)
theorem flU_b (w:Nat) (x:Rat):((flU w x:Int):Rat)≤x*(u2 w:Rat)∧x*(u2 w:Rat)<((flU w x+1:Int):Rat):=flr_b _
theorem ceU_b (w:Nat) (x:Rat):x*(u2 w:Rat)≤((ceU w x:Int):Rat)∧((ceU w x - 1:Int):Rat)<x*(u2 w:Rat):=by
 have h:=flr_b (-(x*(u2 w:Rat)))
 unfold ceU
 rw[Rat.intCast_add] at h
 have e : -flr (-(x*(u2 w:Rat))) - 1 = -(flr (-(x*(u2 w:Rat)))+1):=by omega
 rw[e,Rat.intCast_neg,Rat.intCast_neg,Rat.intCast_add]
 have e1:((1:Int):Rat)=1:=rfl
 rw[e1] at h ⊢
 constructor<;>grind
def gr (w:Nat) (a:Int):Rat:=(a:Rat) / (u2 w:Rat)
theorem gr_mul (w:Nat) (a:Int):gr w a*(u2 w:Rat)=(a:Rat):=div_mul_c (castI_pos (u2_pos w))
theorem gr_mono {w:Nat} {a b:Int} (h:a≤b):gr w a≤gr w b:=div_mono (castI_pos (u2_pos w)) (Rat.intCast_le_intCast.2 h)
theorem gr_nn {w:Nat} {a:Int} (h:0≤a):0≤gr w a:=div_nn (Rat.intCast_le_intCast.2 h) (castI_pos (u2_pos w))
theorem gr_le {w:Nat} {a b:Int}:gr w a≤gr w b↔a≤b:=by
 refine ⟨fun h=>?_,gr_mono⟩
 have:=Rat.mul_le_mul_of_nonneg_right h (Rat.le_of_lt (castI_pos (u2_pos w)))
 rw[gr_mul,gr_mul] at this
 exact Rat.intCast_le_intCast.1 this
theorem gr_neg (w:Nat) (a:Int) : -gr w a=gr w (-a):=by unfold gr;rw[Rat.intCast_neg,Rat.div_def,Rat.div_def,Rat.neg_mul]
theorem gr_add (w:Nat) (a b:Int):gr w a+gr w b=gr w (a+b):=by unfold gr;rw[Rat.intCast_add,Rat.div_def,Rat.div_def,Rat.div_def,Rat.add_mul]
theorem gr_sub (w:Nat) (a b:Int):gr w a - gr w b=gr w (a - b):=by rw[Rat.sub_eq_add_neg,gr_neg,gr_add];congr 1
theorem gr_int (w:Nat) (a c:Int):(c:Rat)*gr w a=gr w (c*a):=by unfold gr;rw[Rat.intCast_mul,Rat.div_def,Rat.div_def,Rat.mul_assoc]
theorem gr_zero (w:Nat):gr w 0=0:=by unfold gr;rw[Rat.div_def];exact Rat.zero_mul _
theorem gr_one (w:Nat):gr w (u2 w)=1:=Rat.mul_inv_cancel _ (by have:=castI_pos (u2_pos w);grind)
theorem lo4_pt {x y r:Rat} (h:x≤y) (hr:0≤r):lo4 (x*r) (x*r) (y*r) (y*r)=x*r∧hi4 (x*r) (x*r) (y*r) (y*r)=y*r:=by
 have h1:=Rat.mul_le_mul_of_nonneg_right h hr
 unfold lo4 hi4 lo hi
 generalize x*r=a at *
 generalize y*r=b at *
 grind
theorem lo4_nn {x y z t:Rat} (h:x≤y) (k:z≤t) (hx:0≤x) (hz:0≤z):lo4 (x*z) (x*t) (y*z) (y*t)=x*z∧hi4 (x*z) (x*t) (y*z) (y*t)=y*t:=by
 have h1:=Rat.mul_le_mul_of_nonneg_right h hz
 have h2:=Rat.mul_le_mul_of_nonneg_right h (Rat.le_trans hz k)
 have h3:=Rat.mul_le_mul_of_nonneg_left k hx
 have h4:=Rat.mul_le_mul_of_nonneg_left k (Rat.le_trans hx h)
 unfold lo4 hi4 lo hi
 generalize x*z=a at *
 generalize y*z=b at *
 generalize x*t=c at *
 generalize y*t=d at *
 grind
structure AtF (n w k:Nat) (a b c d:Int):Prop where
 p:Enc (u2 w) a b (atP n k)
 s:Enc (u2 w) c d (alt (atT n) k)
 p0:0≤a
 p1:1≤b
 ab:a≤b
 pw:b - a≤3
 sw:d - c≤3*(k:Int)
 cd:c≤d
 fall:b*u2 k≤u2 w
theorem AtF.start {n w:Nat} (hn:0<n):AtF n w 0 (u2 w / (n:Int)) (cdiv (u2 w) (n:Int)) 0 0:=by
 have h:=AtI.start (w:=w) hn
 refine ⟨h.p,?_,h.p0,h.p1,h.p.le,h.pw,by omega,by omega,h.fall⟩
 show ((0:Int):Rat)≤0*(u2 w:Rat)∧(0:Rat)*(u2 w:Rat)≤((0:Int):Rat)
 rw[Rat.zero_mul]
 exact ⟨Rat.le_refl,Rat.le_refl⟩
section
variable {n w k:Nat} {a b c d:Int}
theorem AtF.kw (h:AtF n w k a b c d):k≤w:=by
 refine u2_le_iff (Int.le_trans ?_ h.fall)
 have:=Int.mul_le_mul_of_nonneg_right h.p1 (Int.le_of_lt (u2_pos k))
 omega
theorem AtF.term (h:AtF n w k a b c d):Enc (u2 w) (a / ((2*k+1:Nat):Int)) (cdiv b ((2*k+1:Nat):Int)) (atT n k):=h.p.over (d:=((2*k+1:Nat):Int)) xq
theorem AtF.go {c' d':Int} (h:AtF n w k a b c d) (hn:2≤n) (hb:((2*k+1:Nat):Int)<b)
  (hs:k%2=0∧c'=c+a / ((2*k+1:Nat):Int)∧d'=d+cdiv b ((2*k+1:Nat):Int)∨¬k%2=0∧c'=c - cdiv b ((2*k+1:Nat):Int)∧d'=d - a / ((2*k+1:Nat):Int)) :
  AtF n w (k+1) (a / ((n*n:Nat):Int)) (cdiv b ((n*n:Nat):Int)) c' d'∧cdiv b ((n*n:Nat):Int)<b:=by
 have hnn:4≤n*n:=Nat.mul_le_mul hn hn
 have h0:=h.p1
 have h1:1≤cdiv b ((n*n:Nat):Int):=cd_ge (c:=0) xq xq
 have h3:=cd_self (b:=b) (d:=((n*n:Nat):Int)) xq xq
 have h4:=cd_half (b:=b) (d:=((n*n:Nat):Int)) xq xq
 have hp:Enc (u2 w) (a / ((n*n:Nat):Int)) (cdiv b ((n*n:Nat):Int)) (atP n (k+1)):=h.p.over xq
 have ht:=h.term
 have htw:=w3 (a:=a) (b:=b) (d:=((2*k+1:Nat):Int)) h.pw xq
 have hsw:=h.sw
 have hS:Enc (u2 w) c' d' (alt (atT n) (k+1)):=by
  rcases hs with ⟨e,rfl,rfl⟩ | ⟨e,rfl,rfl⟩
  ·have e2:alt (atT n) (k+1)=alt (atT n) k+atT n k:=by rw[alt_s];unfold sgn;rw[if_pos e];grind
   rw[e2];exact h.s.add ht
  have e2:alt (atT n) (k+1)=alt (atT n) k - atT n k:=by rw[alt_s];unfold sgn;rw[if_neg e];grind
  rw[e2];exact h.s.sub ht
 refine ⟨⟨hp,hS,fl_nn h.p0 xq,h1,hp.le,w3 h.pw xq,by rcases hs with ⟨e,rfl,rfl⟩ | ⟨e,rfl,rfl⟩<;>omega,hS.le,?_⟩,by omega⟩
 have h5:u2 (k+1)=u2 k*2:=u2_add k 1
 have h6:=Int.mul_le_mul_of_nonneg_right h4 (Int.le_of_lt (u2_pos k))
 have h7:=h.fall
 rw[h5]
 have e:cdiv b ((n*n:Nat):Int)*(u2 k*2)=2*cdiv b ((n*n:Nat):Int)*u2 k:=by grind
 rw[e];omega
theorem AtF.out (h:AtF n w k a b c d) (hn:0<n) (hb:b≤((2*k+1:Nat):Int)):AtR n w (c - cdiv b ((2*k+1:Nat):Int)) (d+cdiv b ((2*k+1:Nat):Int)):=by
 have ht1:cdiv b ((2*k+1:Nat):Int)≤1:=cd_le xq xq
 have ht0:1≤cdiv b ((2*k+1:Nat):Int):=cd_ge (c:=0) xq (by have:=h.p1;omega)
 have e:cdiv b ((2*k+1:Nat):Int)=1:=by omega
 refine ⟨⟨k,fun m hm=>?_⟩,by have:=h.kw;have:=h.sw;omega⟩
 have h1:=alt_near (j0:=0) (atT_nn hn) (fun j _=>atT_le hn j) (Nat.zero_le _) hm
 rw[e]
 refine h.s.near h1.1 h1.2 ?_ (u2_pos w)
 have h2:=h.term.2
 rw[e] at h2
 exact h2
theorem AtF.bd (h:AtF n w k a b c d) (hn:0<n):b≤u2 w ∧ -(3*(w:Int))≤c∧c≤u2 w∧0≤d∧d≤u2 w+3*(w:Int):=by
 have h3:0≤alt (atT n) k∧alt (atT n) k≤1:=by
  cases k with
  | zero=>exact ⟨Rat.le_refl,by show (0:Rat)≤1;decide⟩
  | succ k =>
   have h1:=atT_b (n:=n) hn (m:=k+1) xq
   have h2:=atT_le hn 0
   refine ⟨by grind,Rat.le_trans h1.2 ?_⟩
   refine Rat.le_trans (div_le_self (atP_nn hn 0) (cast_one xq)) ?_
   show 1 / (n:Rat)≤1
   exact div_le_self yq (cast_one hn)
 have hU:=castI_pos (u2_pos w)
 have h4:alt (atT n) k*(u2 w:Rat)≤(u2 w:Rat):=by
  have:=Rat.mul_le_mul_of_nonneg_right h3.2 (Rat.le_of_lt hU)
  rwa [Rat.one_mul] at this
 have h5:=h.s.lo_le h4
 have h6:=h.s.nonneg h3.1 (u2_pos w)
 have h7:=h.sw
 have h8:=h.kw
 have h9:=h.fall
 have h10:=Int.mul_le_mul_of_nonneg_left (show 1≤u2 k by have:=u2_pos k;omega) (show 0≤b by have:=h.p1;omega)
 refine ⟨by omega,by omega,h5,h6,by omega⟩
end
theorem CsQ.ofR {p q w:Nat} {a b:Int} (h:PiR w a b) (hw:16≤w) (hq:0<q) (hp:2*p≤q) (hp1:1≤p) :
  CsQ p q w (flU w (gr w a*((p:Rat) / (q:Rat))*(gr w a*((p:Rat) / (q:Rat))))) (ceU w (gr w b*((p:Rat) / (q:Rat))*(gr w b*((p:Rat) / (q:Rat)))))∧0≤gr w a*((p:Rat) / (q:Rat))∧gr w a*((p:Rat) / (q:Rat))≤gr w b*((p:Rat) / (q:Rat))∧0<gr w b*((p:Rat) / (q:Rat)):=by
 obtain ⟨h0,h4,hab,hb1⟩:=h.bd hw
 obtain ⟨⟨N,h1⟩,h2⟩:=h
 have l8:=lin8 w hw
 have hU:=u2_pos w
 have hUr:=castI_pos hU
 have hq':=cast_pos hq
 have hp':=cast_pos hp1
 have aa:(0:Rat)<(p:Rat) / (q:Rat):=by
  rw[Rat.div_def];exact Rat.mul_pos hp' (Rat.inv_pos.2 hq')
 have ac:(p:Rat) / (q:Rat)≤1 / 2:=by
  refine dv_le hq' ?_
  have h2:((2*p:Nat):Rat)≤(q:Rat):=Rat.natCast_le_natCast.2 hp
  rw[Rat.natCast_mul] at h2
  have e2:((2:Nat):Rat)=2:=rfl
  rw[e2] at h2
  grind
 have hya:∀m,N≤m→gr w a*((p:Rat) / (q:Rat))≤csY p q m∧csY p q m≤gr w b*((p:Rat) / (q:Rat)):=fun m hm=>by
  have h3:=h1 m hm
  have e:csY p q m=piN m*((p:Rat) / (q:Rat)):=by unfold csY;rw[Rat.div_def,Rat.div_def,Rat.mul_assoc]
  have f1:gr w a≤piN m:=dv_le hUr h3.1
  have f2:piN m≤gr w b:=le_dv hUr h3.2
  rw[e]
  exact ⟨Rat.mul_le_mul_of_nonneg_right f1 (Rat.le_of_lt aa),Rat.mul_le_mul_of_nonneg_right f2 (Rat.le_of_lt aa)⟩
 have hgb:gr w b≤4:=by
  refine dv_le hUr ?_
  have:=Rat.intCast_le_intCast.2 h4
  rw[Rat.intCast_mul] at this
  exact this
 have hgw:(gr w b - gr w a)*(u2 w:Rat)≤((128*(w:Int)+400:Int):Rat):=by
  rw[gr_sub,gr_mul];exact Rat.intCast_le_intCast.2 h2
 have hga:=gr_nn (w:=w) h0
 have hgab:=gr_mono (w:=w) hab
 have ab:0<gr w b:=by
  unfold gr;rw[Rat.div_def];exact Rat.mul_pos (castI_pos xq) (Rat.inv_pos.2 hUr)
 generalize (p:Rat) / (q:Rat)=r at *
 have x0:0≤gr w a*r:=Rat.mul_nonneg hga (Rat.le_of_lt aa)
 have xy:gr w a*r≤gr w b*r:=Rat.mul_le_mul_of_nonneg_right hgab (Rat.le_of_lt aa)
 have y2:gr w b*r≤2:=by
  have:=mulm hgb ac (Rat.le_of_lt ab) (Rat.le_of_lt aa)
  refine Rat.le_trans this (by decide +kernel)
 have yp:0<gr w b*r:=Rat.mul_pos ab aa
 have hxw:(gr w b*r - gr w a*r)*(u2 w:Rat)≤((128*(w:Int)+400:Int):Rat):=by
  have e:(gr w b*r - gr w a*r)*(u2 w:Rat)=(gr w b - gr w a)*(u2 w:Rat)*r:=by grind
  rw[e]
  have hn:0≤(gr w b - gr w a)*(u2 w:Rat):=Rat.mul_nonneg (by grind) (Rat.le_of_lt hUr)
  have k1:=Rat.mul_le_mul_of_nonneg_left (c:=(gr w b - gr w a)*(u2 w:Rat)) (show r≤1 by
   refine Rat.le_trans ac (by decide +kernel)) hn
  rw[Rat.mul_one] at k1
  exact Rat.le_trans k1 hgw
 refine ⟨?_,x0,xy,yp⟩
 generalize gr w a*r=x at *
 generalize gr w b*r=y at *
 have f1:=flU_b w (x*x)
 have f2:=ceU_b w (y*y)
 have ad:0≤x*x:=Rat.mul_nonneg x0 x0
 have E:∀m,N≤m→Enc (u2 w) (flU w (x*x)) (ceU w (y*y)) (csY p q m*csY p q m):=fun m hm=>by
  obtain ⟨g1,g2⟩:=hya m hm
  have k1:=mulm g1 g1 x0 x0
  have k2:=mulm g2 g2 (Rat.le_trans x0 g1) (Rat.le_trans x0 g1)
  exact ⟨Rat.le_trans f1.1 (Rat.mul_le_mul_of_nonneg_right k1 (Rat.le_of_lt hUr)),Rat.le_trans (Rat.mul_le_mul_of_nonneg_right k2 (Rat.le_of_lt hUr)) f2.1⟩
 have hyy:(y*y - x*x)*(u2 w:Rat)≤4*((128*(w:Int)+400:Int):Rat):=by
  have e:(y*y - x*x)*(u2 w:Rat)=(y - x)*(u2 w:Rat)*(y+x):=by grind
  rw[e]
  have hn:0≤(y - x)*(u2 w:Rat):=Rat.mul_nonneg (by grind) (Rat.le_of_lt hUr)
  have k1:=Rat.mul_le_mul_of_nonneg_left (c:=(y - x)*(u2 w:Rat)) (show y+x≤4 by grind) hn
  grind
 refine ⟨⟨N,E⟩,?_,?_,?_,(E N qyl).le,?_⟩
 ·have g:((ceU w (y*y) - 1 - (flU w (x*x)+1):Int):Rat)<((4*(128*(w:Int)+400):Int):Rat):=by
   rw[Rat.intCast_sub,Rat.intCast_mul]
   have e4:((4:Int):Rat)=4:=rfl
   rw[e4]
   have:=f1.2
   have:=f2.2
   grind
  have:=Rat.intCast_lt_intCast.1 g
  omega
 ·have g:((0:Int):Rat)<((flU w (x*x)+1:Int):Rat):=Std.lt_of_le_of_lt (Rat.mul_nonneg ad (Rat.le_of_lt hUr)) f1.2
  have:=Rat.intCast_lt_intCast.1 g
  omega
 ·have k1:y*y≤4:=by
   have:=mulm y2 y2 (Rat.le_of_lt yp) (Rat.le_of_lt yp)
   refine Rat.le_trans this (by decide +kernel)
  have k2:=Rat.mul_le_mul_of_nonneg_right k1 (Rat.le_of_lt hUr)
  have g:((ceU w (y*y) - 1:Int):Rat)<((4*u2 w:Int):Rat):=by
   rw[Rat.intCast_mul]
   exact Std.lt_of_lt_of_le f2.2 k2
  have:=Rat.intCast_lt_intCast.1 g
  omega
 have g:((0:Int):Rat)<((ceU w (y*y):Int):Rat):=Std.lt_of_lt_of_le (Rat.mul_pos (Rat.mul_pos yp yp) hUr) f2.1
 have:=Rat.intCast_lt_intCast.1 g
 omega
theorem cdiv_cdiv {a b d:Int} (hb:0<b) (hd:0<d):cdiv (cdiv a b) d=cdiv a (b*d):=by
 unfold cdiv
 rw[Int.neg_neg,Int.ediv_ediv_of_nonneg xq]
structure CsF (p q w k:Nat) (tl th c d:Int):Prop where
 t:CsT p q w k tl th
 s:∃N:Nat,∀m,N≤m→Enc (u2 w) c d (alt (csT (csY p q m)) k)
 sw:d - c≤csW w*(k:Int)
 cd:c≤d
theorem CsF.start {p q w:Nat}:CsF p q w 0 (u2 w) (u2 w) 0 0:=by
 refine ⟨CsT.start,⟨0,fun m _=>?_⟩,by omega,by omega⟩
 show ((0:Int):Rat)≤0*(u2 w:Rat)∧(0:Rat)*(u2 w:Rat)≤((0:Int):Rat)
 rw[Rat.zero_mul]
 exact ⟨Rat.le_refl,Rat.le_refl⟩
def csMF (w k:Nat) (th:Int):Nat:=if k=0 then (2*u2 w).toNat+2 else if k=1 then (2*u2 w).toNat+1 else th.toNat
section
variable {p q w k:Nat} {tl th c d ql qh c' d':Int}
theorem CsF.go (h:CsF p q w k tl th c d) (hq:CsQ p q w ql qh) (ht:k≤1∨2≤th)
  (hs:k%2=0∧c'=c+tl∧d'=d+th∨¬k%2=0∧c'=c - th∧d'=d - tl) :
  CsF p q w (k+1) (csL w k tl ql) (csH w k th qh) c' d'∧csMF w (k+1) (csH w k th qh)<csMF w k th:=by
 have htw:=h.t.tw
 have hsw:=h.sw
 have htt:=h.t.tt
 have ht2:=h.t.t2
 have hU:=u2_pos w
 obtain ⟨N,h1⟩:=h.t.e
 obtain ⟨M,h2⟩:=h.s
 have hS:∀m,max N M≤m→Enc (u2 w) c' d' (alt (csT (csY p q m)) (k+1)):=fun m hm=>by
  rcases hs with ⟨e,rfl,rfl⟩ | ⟨e,rfl,rfl⟩
  ·have e2:alt (csT (csY p q m)) (k+1)=alt (csT (csY p q m)) k+csT (csY p q m) k:=by rw[alt_s];unfold sgn;rw[if_pos e];grind
   rw[e2];exact (h2 m xq).add (h1 m xq)
  have e2:alt (csT (csY p q m)) (k+1)=alt (csT (csY p q m)) k - csT (csY p q m) k:=by rw[alt_s];unfold sgn;rw[if_neg e];grind
  rw[e2];exact (h2 m xq).sub (h1 m xq)
 have e3:csW w*(((k+1:Nat)):Int)=csW w*(k:Int)+csW w:=by rw[Int.natCast_add,Int.mul_add];simp
 obtain ⟨n1,n2,n3⟩:=h.t.next hq ht
 refine ⟨⟨n1,⟨_,hS⟩,by rw[e3];rcases hs with ⟨e,rfl,rfl⟩ | ⟨e,rfl,rfl⟩<;>omega,(hS _ qyl).le⟩,?_⟩
 have n1t2:=n1.t2
 have n1t1:=n1.t1
 unfold csMF
 rw[if_neg xq]
 rcases Nat.lt_or_ge k 1 with hk | hk
 ·rw[if_pos (show k+1=1 by omega),if_pos (show k=0 by omega)];omega
 rw[if_neg (show ¬k+1=1 by omega),if_neg (show ¬k=0 by omega)]
 have:=n2 hk
 by_cases hk1:k=1
 ·rw[if_pos hk1];omega
 rw[if_neg hk1]
 have:=n3 hk xq
 omega
theorem CsF.out (h:CsF p q w k tl th c d) (h0:0<q) (hp:2*p≤q) (hk:1<k) (ht:th≤1):CsR p q w (c - th) (d+th):=by
 obtain ⟨N,h1⟩:=h.t.e
 obtain ⟨M,h2⟩:=h.s
 have hU:=u2_pos w
 have e:th=1:=by have:=h.t.t1;omega
 subst e
 refine ⟨⟨max (max N M) (k+1),fun m hm=>?_⟩,?_⟩
 ·have hy:=csY_b (m:=m) h0 hp xq
  have h3:=cs_near (x:=fun _=>0) (m:=m) (j:=k) hy xq xq
  exact (h2 m xq).near h3.1 h3.2 (h1 m xq).2 hU
 have h6:=h.sw
 have h7:=h.t.jw
 have h8:=Int.mul_le_mul_of_nonneg_left (show (k:Int)≤(w:Int)+4 by omega) (show 0≤csW w by unfold csW;omega)
 omega
theorem CsF.bd (h:CsF p q w k tl th c d) (h0:0<q) (hp:2*p≤q) : -(csW w*((w:Int)+2)) - 3*u2 w≤c∧c≤3*u2 w ∧ -(3*u2 w)≤d∧d≤3*u2 w+csW w*((w:Int)+2):=by
 obtain ⟨N,h1⟩:=h.s
 have hU:=u2_pos w
 have h9:=h.sw
 have h10:=h.t.jw
 have h11:=Int.mul_le_mul_of_nonneg_left (show (k:Int)≤(w:Int)+2 by omega) (show 0≤csW w by unfold csW;omega)
 by_cases hk:k=0
 ·subst hk
  have h2:=h1 N qyl
  have e:alt (csT (csY p q N)) 0=0:=rfl
  rw[e] at h2
  have a:=h2.lo_le (c:=0) (by rw[Rat.zero_mul];exact Rat.le_refl)
  have b:=h2.le_hi (c:=0) (by rw[Rat.zero_mul];exact Rat.le_refl)
  omega
 have h2:=cs_bd (N:=N) (m:=N+1) h0 hp xq xq (h1 (N+1) xq)
 omega
end
theorem flr_gr {b w:Nat} {a:Int} (h:b≤w):flr (gr w a*(((2^b:Nat):Int):Rat))=a / u2 (w - b):=by
 have e:u2 w=u2 b*u2 (w - b):=by rw[← u2_add,show b+(w - b)=w by omega]
 have hb:=castI_pos (u2_pos b)
 have hs:=castI_pos (u2_pos (w - b))
 rw[show (((2^b:Nat):Int):Rat)=(u2 b:Rat) from rfl,← flr_div (u2_pos (w - b))]
 congr 1
 unfold gr
 rw[e,Rat.intCast_mul]
 generalize (u2 b:Rat)=x at *
 generalize (u2 (w - b):Rat)=y at *
 have hx:x≠0:=by grind
 have hy:y≠0:=by grind
 grind
end Nt
namespace Nt
open Classical in
noncomputable def flo (X:Nat→Rat) (b:Nat):Int:=if h:∃z,FlO X b z then h.choose else 0
theorem FlO.flo {X:Nat→Rat} {b:Nat} {z:Int} (h:FlO X b z):flo X b=z:=by
 have hz:∃z,FlO X b z:=⟨z,h⟩
 unfold Nt.flo
 rw[dif_pos hz]
 exact hz.choose_spec.uniq h
def fold (p:Int) (q:Nat):Nat:=let r:=(Int.tmod p (2*(q:Int))).natAbs;if q<r then 2*q - r else r
theorem fold_le (p:Int) (q:Nat) (hq:0<q):fold p q≤q:=by
 have h:(Int.tmod p (2*(q:Int))).natAbs<2*q:=by
  rw[Int.natAbs_tmod]
  have:(2*(q:Int)).natAbs=2*q:=by omega
  rw[this]
  exact Nat.mod_lt _ xq
 unfold fold
 dsimp only
 split<;>omega
noncomputable def cosA (p q b:Nat):Rat×Rat :=
 if p=0 then (1,1) else if 2*p=q then (0,0) else if 3*p=q then (dnQ (1 / 2) b,-dnQ (-(1 / 2)) b)
 else (gr b (flo (coN p q) b),gr b (flo (coN p q) b+1))
noncomputable def cosF (p q b:Nat):Rat×Rat:=if q<2*p then (-(cosA (q - p) q b).2,-(cosA (q - p) q b).1) else cosA p q b
noncomputable def cosV (p:Int) (q b:Nat):Rat×Rat:=cosF (fold p q) q b
end Nt
open Go.RowKit
theorem ty3:TyIs Tryz.prog 3 false 1:=fun w=>⟨by kernel_rfl,by kernel_rfl⟩
theorem ty4:TyIs Tryz.prog 4 false 1:=fun w=>⟨by kernel_rfl,by kernel_rfl⟩
theorem ty24:TyIs Tryz.prog 24 false 1:=fun w=>⟨by kernel_rfl,by kernel_rfl⟩
theorem ty26:TyIs Tryz.prog 26 true 2:=fun w=>⟨by kernel_rfl,by kernel_rfl⟩
theorem ty28:TyIs Tryz.prog 28 true 3:=fun w=>⟨by kernel_rfl,by kernel_rfl⟩
theorem ty37:TyIs Tryz.prog 37 false 1:=fun w=>⟨by kernel_rfl,by kernel_rfl⟩
theorem ty39:TyIs Tryz.prog 39 true 6:=fun w=>⟨by kernel_rfl,by kernel_rfl⟩
theorem ty45:TyIs Tryz.prog 45 true 2:=fun w=>⟨by kernel_rfl,by kernel_rfl⟩
theorem ty57:TyIs Tryz.prog 57 true 6:=fun w=>⟨by kernel_rfl,by kernel_rfl⟩
theorem ty69:TyIs Tryz.prog 69 true 3:=fun w=>⟨by kernel_rfl,by kernel_rfl⟩
theorem ty71:TyIs Tryz.prog 71 true 2:=fun w=>⟨by kernel_rfl,by kernel_rfl⟩
theorem ty74:TyIs Tryz.prog 74 true 5:=fun w=>⟨by kernel_rfl,by kernel_rfl⟩
theorem ty79:TyIs Tryz.prog 79 false 1:=fun w=>⟨by kernel_rfl,by kernel_rfl⟩
theorem ty94:TyIs Tryz.prog 94 true 3:=fun w=>⟨by kernel_rfl,by kernel_rfl⟩
theorem ty96:TyIs Tryz.prog 96 true 4:=fun w=>⟨by kernel_rfl,by kernel_rfl⟩
theorem ty144:TyIs Tryz.prog 144 true 4:=fun w=>⟨by kernel_rfl,by kernel_rfl⟩
theorem sl22:SlIs Tryz.prog 22 1:=⟨3,false,by kernel_rfl,ty3⟩
theorem sl24:SlIs Tryz.prog 24 1:=⟨79,false,by kernel_rfl,ty79⟩
theorem sl31:SlIs Tryz.prog 31 2:=⟨45,true,by kernel_rfl,ty45⟩
theorem sl36:SlIs Tryz.prog 36 3:=⟨28,true,by kernel_rfl,ty28⟩
theorem sl37:SlIs Tryz.prog 37 3:=⟨28,true,by kernel_rfl,ty28⟩
theorem sl66:SlIs Tryz.prog 66 5:=⟨74,true,by kernel_rfl,ty74⟩
theorem sl70:SlIs Tryz.prog 70 3:=⟨69,true,by kernel_rfl,ty69⟩
theorem sl72:SlIs Tryz.prog 72 2:=⟨71,true,by kernel_rfl,ty71⟩
theorem k_riTrim {u w:World} {i1:IL} {zN:Int} {K:Nat} (d:Dat u w) (hi1:IntV u i1 zN K) (hK:K≤500000000):qyc 64 #[i1.v] w (Post u w fun v u'=>∃i:IL,v=i.v∧IntN u' i zN K):=by
 obtain ⟨N,hN,hzN⟩:=hi1
 refine zzm Tryz.func64 rfl Tryz.ntmps64 Tryz.results64 d ?_
 refine sq9 (zzk 1 ⟨26,i1.cs⟩ (zzk 2 ⟨26,[.bool false,qyn]⟩ (zzb (sq9 (zza 4 (.adr 1 1) (zzi 5 (.v (i1.m.v)) ty24 zzl (zzg 6 117 _ fun _ _ ae ac=>qym (k_rnTrim ac (hN.ext ae) xq) ?_)))))))
 rintro _ u14 g15 ⟨aa,rfl,ab⟩
 refine zza 3 (.v (aa.v)) (zzb (sq9 (zza 7 (.adr 1 0) (zzi 8 (zB i1.s) ty4 zzl ?_))))
 rcases Bool.eq_false_or_eq_true i1.s with hs17 | hs17
 ·refine qbi 9 hs17 (zza 10 (.v (aa.v)) ?_ (hw:=w1 2 true 9))
  refine zza 11 (zI aa.n) ?_ (hw:=w1 2 true 9)
  refine zza 12 (zB (decide ((0:Int)<(aa.n:Int)))) ?_ (hw:=w1 2 true 9)
  refine zza 13 (zB (decide ((0:Int)<(aa.n:Int)))) (zza 14 (.v (aa.v)) (zza 15 (.v (.agg #[.bool (decide ((0:Int)<(aa.n:Int))),aa.v])) (zzj ⟨26,[.bool (decide ((0:Int)<(aa.n:Int))),aa.v]⟩ ty26 ?_)))
  refine zzb (zzo (ret0 [.agg #[.bool (decide ((0:Int)<(aa.n:Int))),aa.v]] ⟨zzr ty26 zze,trivial⟩ fun u18 ad=>?_))
  refine ⟨⟨_,aa⟩,rfl,?_⟩
  rw[hzN,hs17]
  exact signed_int (s:=true) (ab.ext ad)
 refine qbi 9 hs17 (zzn 10 (uw 2 true false 9) (zzn 11 (uw 2 true false 9) (zzn 12 (uw 2 true false 9) (zza 13 (zB false) (zza 14 (.v (aa.v)) (zza 15 (.v (.agg #[.bool false,aa.v])) (zzj ⟨26,[.bool false,aa.v]⟩ ty26 ?_)))))))
 refine zzb (zzo (ret0 [.agg #[.bool false,aa.v]] ⟨zzr ty26 zze,trivial⟩ fun u20 af=>?_))
 refine ⟨⟨_,aa⟩,rfl,?_⟩
 rw[hzN,hs17]
 exact signed_int (s:=false) (ab.ext af)
theorem k_riSign {u w:World} {i1:IL} {zN:Int} {K:Nat} (d:Dat u w) (hi1:IntV u i1 zN K) (hK:K≤500000000):qyc 60 #[i1.v] w (Post u w fun v u'=>v=.int .i64 (cmpS zN 0)):=by
 refine zzm Tryz.func60 rfl Tryz.ntmps60 Tryz.results60 d ?_
 refine sq9 (zzk 1 ⟨26,i1.cs⟩ (zza 2 (zI 0) (zzb (sq9 (zzi 3 (.v (i1.v)) ty26 zze (zzg 4 64 _ fun _ _ ag af=>qym (k_riTrim af (hi1.ext ag) xq) ?_))))))
 rintro _ u14 g15 ⟨ac,rfl,ae⟩
 refine zzj ⟨26,ac.cs⟩ ty26 ?_
 refine zzb (zzd (zzt (sq9 (zza 6 (.adr 1 1) (zzi 7 (.v (ac.m.v)) ty24 zzl (zza 8 (zI ac.m.n) (zza 9 (zB ((ac.m.n:Int)==0)) (zza 5 (zB ((ac.m.n:Int)==0)) (zzb (zzu (b:=(ac.m.n:Int)==0) xj (fun ab=>?_) (fun ab=>?_)))))))))))
 ·have ad:(ac.m.n:Int)=0:=by simpa using ab
  refine sq9 (zza 2 (zI 0) (zzb (zzo (zyu (zzw (ret0 [.int .i64 0] ⟨zzq,trivial⟩ fun u18 e19=>?_))))))
  show _=_
  rw[sign_len ae,if_pos ab]
  rfl
 have ad:¬((ac.m.n:Int)=0):=by simpa using ab
 refine sq9 (zza 11 (.adr 1 0) (zzi 12 (zB ac.s) ty4 zzl (zza 10 (zB ac.s) (zzb (zzu (b:=ac.s) xj (fun aa=>?_) (fun aa=>?_))))))
 ·replace aa:ac.s=true:=aa
  refine sq9 (zza 2 (zI (-1)) (zzb (zzo (zyu (zzw (ret0 [.int .i64 (-1)] ⟨zzq,trivial⟩ fun u21 e22=>?_))))))
  show _=_
  rw[sign_len ae,if_neg (ne_true_of_eq_false ab),if_pos aa]
  rfl
 replace aa:ac.s=false:=aa
 refine zzs (zzp ?_)
 refine sq9 (zza 2 (zI 1) (zzb (zzo (ret0 [.int .i64 1] ⟨zzq,trivial⟩ fun u23 e24=>?_))))
 show _=_
 rw[sign_len ae,if_neg (ne_true_of_eq_false ab),if_neg (ne_true_of_eq_false aa)]
 rfl
theorem k_riNeg {u w:World} {i1:IL} {zN:Int} {K:Nat} (d:Dat u w) (hi1:IntV u i1 zN K) (hK:K≤500000000):qyc 63 #[i1.v] w (Post u w fun v u'=>∃i:IL,v=i.v∧IntN u' i (-zN) K):=by
 refine zzm Tryz.func63 rfl Tryz.ntmps63 Tryz.results63 d ?_
 refine sq9 (zzk 1 ⟨26,i1.cs⟩ (zzk 2 ⟨26,[.bool false,qyn]⟩ (zzb (sq9 (zzi 3 (.v (i1.v)) ty26 zze (zzg 4 64 _ fun _ _ ae ac=>qym (k_riTrim ac (hi1.ext ae) xq) ?_))))))
 rintro _ u14 g15 ⟨aa,rfl,ab⟩
 refine zzj ⟨26,aa.cs⟩ ty26 ?_
 refine zzb (sq9 (zza 5 (.adr 1 0) (zzi 6 (zB aa.s) ty4 zzl (zza 7 (zB (!aa.s)) ?_))))
 rcases Bool.eq_false_or_eq_true (!aa.s) with hs17 | hs17
 ·refine qbi 8 hs17 (zza 9 (.adr 1 1) ?_ (hw:=w1 3 true 8))
  refine zzi 10 (.v (aa.m.v)) ty24 zzl ?_ (hw:=w1 3 true 8)
  refine zza 11 (zI aa.m.n) ?_ (hw:=w1 3 true 8)
  refine zza 12 (zB (decide ((0:Int)<(aa.m.n:Int)))) ?_ (hw:=w1 3 true 8)
  refine zza 13 (zB (decide ((0:Int)<(aa.m.n:Int)))) (zza 14 (.adr 1 0) (zzj ⟨26,[.bool (decide ((0:Int)<(aa.m.n:Int))),aa.m.v]⟩ ty4 ?_))
  refine zzb (sq9 (zzi 15 (.v (.agg #[.bool (decide ((0:Int)<(aa.m.n:Int))),aa.m.v])) ty26 zze (zzj ⟨26,[.bool (decide ((0:Int)<(aa.m.n:Int))),aa.m.v]⟩ ty26 ?_)))
  refine zzb (zzo (ret0 [.agg #[.bool (decide ((0:Int)<(aa.m.n:Int))),aa.m.v]] ⟨zzr ty26 zze,trivial⟩ fun u18 ad=>?_))
  refine ⟨⟨_,aa.m⟩,rfl,?_⟩
  have h9:=neg_int (ab.ext ad)
  rw[hs17] at h9
  exact h9
 refine qbi 8 hs17 (zzn 9 (uw 3 true false 8) (zzn 10 (uw 3 true false 8) (zzn 11 (uw 3 true false 8) (zzn 12 (uw 3 true false 8) (zza 13 (zB false) (zza 14 (.adr 1 0) (zzj ⟨26,[.bool false,aa.m.v]⟩ ty4 ?_)))))))
 refine zzb (sq9 (zzi 15 (.v (.agg #[.bool false,aa.m.v])) ty26 zze (zzj ⟨26,[.bool false,aa.m.v]⟩ ty26 ?_)))
 refine zzb (zzo (ret0 [.agg #[.bool false,aa.m.v]] ⟨zzr ty26 zze,trivial⟩ fun u20 af=>?_))
 refine ⟨⟨_,aa.m⟩,rfl,?_⟩
 have h9:=neg_int (ab.ext af)
 rw[hs17] at h9
 exact h9
theorem k_riAbs {u w:World} {i1:IL} {zN:Int} {K:Nat} (d:Dat u w) (hi1:IntV u i1 zN K) (hK:K≤500000000):qyc 58 #[i1.v] w (Post u w fun v u'=>∃i:IL,v=i.v∧IntN u' i (zN.natAbs:Int) K):=by
 refine zzm Tryz.func58 rfl Tryz.ntmps58 Tryz.results58 d ?_
 refine sq9 (zzk 1 ⟨26,i1.cs⟩ (zzk 2 ⟨26,[.bool false,qyn]⟩ (zzb (sq9 (zza 3 (.adr 1 1) (zzi 4 (.v (i1.m.v)) ty24 zzl (zzg 5 117 _ fun _ _ ae ab=>qym (k_rnTrim ab ((IntV.abs hi1).ext ae) xq) ?_)))))))
 rintro _ u14 g15 ⟨aa,rfl,ad⟩
 refine zza 6 (.v (.agg #[.bool false,aa.v])) (zzj ⟨26,[.bool false,aa.v]⟩ ty26 ?_)
 refine zzb (zzo (ret0 [.agg #[.bool false,aa.v]] ⟨zzr ty26 zze,trivial⟩ fun u17 ac=>?_))
 exact ⟨(⟨false,aa⟩:IL),rfl,(nat_intN (ad.ext ac))⟩
theorem k_riAdd {u w:World} {i1:IL} {zN:Int} {K:Nat} {i2:IL} {zM:Int} {L:Nat} (d:Dat u w) (hi1:IntV u i1 zN K) (hi2:IntV u i2 zM L) (hK:K≤400000000) (hL:L≤400000000):qyc 56 #[i1.v,i2.v] w (Post u w fun v u'=>∃i:IL,v=i.v∧IntN u' i (zN+zM) (max K L+1)):=by
 refine zzm Tryz.func56 rfl Tryz.ntmps56 Tryz.results56 d ?_
 refine sq9 (zzk 2 ⟨26,i1.cs⟩ (zzk 3 ⟨26,i2.cs⟩ (zzk 4 ⟨26,[.bool false,qyn]⟩ (zzb (zzd (zzz [0,1,0,7,15,31] [(0,[]),(2,[]),(1,[]),(3,[]),(4,[]),(5,[])] xj xj (zzi 5 (.v (i1.v)) ty26 zze (zzi 7 (.v (i2.v)) ty26 zze (zzg 6 64 _ fun _ _ an aD=>qym (k_riTrim aD (hi1.ext an) xq) ?_)))))))))
 rintro _ u14 aw ⟨aa,rfl,ae⟩
 refine zzg 8 64 _ fun _ _ ah aF=>qym (k_riTrim aF (hi2.ext (an.t (aw.t ah))) xq) ?_
 rintro _ u20 ai ⟨ab,rfl,af⟩
 refine zzj ⟨26,aa.cs⟩ ty26 ?_
 refine zzj ⟨26,ab.cs⟩ ty26 ?_
 refine zzb (zzd (sq9 (zza 9 (.adr 2 0) (zzi 10 (zB aa.s) ty4 zzl (zza 11 (.adr 3 0) (zzi 12 (zB ab.s) ty4 zzl (zza 13 (zB (aa.s==ab.s)) (zzb (zzu (b:=aa.s==ab.s) xj (fun ad=>?_) (fun ad=>?_))))))))))
 ·refine zzd (zzz [0,1,0,4,0,16,60,127,255,511] [(0,[]),(1,[]),(2,[]),(3,[]),(4,[]),(5,[]),(6,[]),(7,[]),(8,[]),(9,[])] xj xj (zza 14 (.adr 2 0) (zzi 15 (zB aa.s) ty4 zzl (zza 16 (.adr 2 1) (zzi 17 (.v (aa.m.v)) ty24 zzl (zza 18 (.adr 3 1) (zzi 19 (.v (ab.m.v)) ty24 zzl (zzg 20 120 _ fun _ _ aq aG=>qym (k_rnAdd aG ((int_mag ae).ext (ah.t (ai.t aq))).raw ((int_mag af).ext aq).raw xq xq) ?_))))))))
  rintro _ u27 g28 ⟨aK,rfl,aJ⟩
  refine zza 21 (.v (.agg #[.bool aa.s,aK.v])) (zzg 22 64 _ fun _ _ ax aO=>qym (k_riTrim aO (IntV.same (s:=aa.s) (aJ.ext ax).raw) xq) ?_)
  rintro _ u33 g34 ⟨ak,rfl,aN⟩
  refine zzj ⟨26,ak.cs⟩ ty26 ?_
  refine zzb (zzo (zzw (ret0 [ak.v] ⟨zzr ty26 zze,trivial⟩ fun u36 aM=>?_)))
  refine ⟨ak,rfl,IntN.more (K:=(max K L+1)) ?_ xq⟩
  have h9:zN+zM=(Nt.sg aa.s ((zN:Int).natAbs+(zM:Int).natAbs)):=by
   rw[sg_add1 _ _ ad]
   rw[← IntN.sg ae,← IntN.sg af]
  rw[h9]
  exact (aN.ext aM)
 refine zzs (zzp ?_)
 refine zzd (sq9 (zza 23 (.adr 2 1) (zzi 24 (.v (aa.m.v)) ty24 zzl (zza 25 (.adr 3 1) (zzi 26 (.v (ab.m.v)) ty24 zzl (zzg 27 121 _ fun _ _ ag aE=>qym (k_rnCompare aE ((int_mag ae).ext (ah.t (ai.t ag))).raw ((int_mag af).ext ag).raw xq xq) ?_))))))
 rintro _ u39 aj rfl
 refine zza 28 (zB (decide ((0:Int)≤(cmpS ((zN:Int).natAbs) ((zM:Int).natAbs))))) (zzb (zzu (b:=decide ((0:Int)≤(cmpS ((zN:Int).natAbs) ((zM:Int).natAbs)))) xj (fun ac=>?_) (fun ac=>?_)))
 ·have qhb42:=qyt ac
  refine zzd (zzz [0,1,0,4,0,16,60,127,255,511] [(0,[]),(1,[]),(2,[]),(3,[]),(4,[]),(5,[]),(6,[]),(7,[]),(8,[]),(9,[])] xj xj (zza 29 (.adr 2 0) (zzi 30 (zB aa.s) ty4 zzl (zza 31 (.adr 2 1) (zzi 32 (.v (aa.m.v)) ty24 zzl (zza 33 (.adr 3 1) (zzi 34 (.v (ab.m.v)) ty24 zzl (zzg 35 122 _ fun _ _ ap aB=>qym (k_rnSub aB ((int_mag ae).ext (ah.t (ai.t (ag.t (aj.t ap))))).raw ((int_mag af).ext (ag.t (aj.t ap))).raw xq xq) ?_))))))))
  rintro _ u46 g47 ⟨aQ,rfl,au⟩
  refine zza 36 (.v (.agg #[.bool aa.s,aQ.v])) (zzg 37 64 _ fun _ _ aH av=>qym (k_riTrim av (IntV.same (s:=aa.s) (au.ext aH).raw) xq) ?_)
  rintro _ u52 g53 ⟨am,rfl,aP⟩
  refine zzj ⟨26,am.cs⟩ ty26 ?_
  refine zzb (zzo (zzw (ret0 [am.v] ⟨zzr ty26 zze,trivial⟩ fun u55 aS=>?_)))
  refine ⟨am,rfl,IntN.more (K:=K) ?_ xq⟩
  have h9:zN+zM=(Nt.sg aa.s ((zN:Int).natAbs - (zM:Int).natAbs)):=by
   rw[sg_add4 _ _ ad ac]
   rw[← IntN.sg ae,← IntN.sg af]
  rw[h9]
  exact (aP.ext aS)
 have qhb42:=qyf ac
 refine zzs (zzp ?_)
 refine zzd (zzz [0,1,0,4,0,16,60,127,255,511] [(0,[]),(1,[]),(2,[]),(3,[]),(4,[]),(5,[]),(6,[]),(7,[]),(8,[]),(9,[])] xj xj (zza 38 (.adr 3 0) (zzi 39 (zB ab.s) ty4 zzl (zza 40 (.adr 3 1) (zzi 41 (.v (ab.m.v)) ty24 zzl (zza 42 (.adr 2 1) (zzi 43 (.v (aa.m.v)) ty24 zzl (zzg 44 122 _ fun _ _ ao ar=>qym (k_rnSub ar ((int_mag af).ext (ag.t (aj.t ao))).raw ((int_mag ae).ext (ah.t (ai.t (ag.t (aj.t ao))))).raw xq xq) ?_))))))))
 rintro _ u60 g61 ⟨aL,rfl,aA⟩
 refine zza 45 (.v (.agg #[.bool ab.s,aL.v])) (zzg 46 64 _ fun _ _ aI ay=>qym (k_riTrim ay (IntV.same (s:=ab.s) (aA.ext aI).raw) xq) ?_)
 rintro _ u66 g67 ⟨al,rfl,aR⟩
 refine zzj ⟨26,al.cs⟩ ty26 ?_
 refine zzb (zzo (ret0 [al.v] ⟨zzr ty26 zze,trivial⟩ fun u69 aC=>?_))
 refine ⟨al,rfl,IntN.more (K:=L) ?_ xq⟩
 have h9:zN+zM=(Nt.sg ab.s ((zM:Int).natAbs - (zN:Int).natAbs)):=by
  rw[sg_add5 _ _ ad ac]
  rw[← IntN.sg ae,← IntN.sg af]
 rw[h9]
 exact (aR.ext aC)
theorem k_riSub {u w:World} {i1:IL} {zN:Int} {K:Nat} {i2:IL} {zM:Int} {L:Nat} (d:Dat u w) (hi1:IntV u i1 zN K) (hi2:IntV u i2 zM L) (hK:K≤400000000) (hL:L≤400000000):qyc 118 #[i1.v,i2.v] w (Post u w fun v u'=>∃i:IL,v=i.v∧IntN u' i (zN - zM) (max K L+1)):=by
 refine zzm Tryz.func118 rfl Tryz.ntmps118 Tryz.results118 d ?_
 refine sq9 (zzk 2 ⟨26,i1.cs⟩ (zzk 3 ⟨26,i2.cs⟩ (zzk 4 ⟨26,[.bool false,qyn]⟩ (zzb (zzd (zzz [0,0,2,7,15] [(0,[]),(1,[]),(2,[]),(3,[]),(4,[])] xj xj (zzi 5 (.v (i1.v)) ty26 zze (zzi 6 (.v (i2.v)) ty26 zze (zzg 7 63 _ fun _ _ ac ad=>qym (k_riNeg ad (hi2.ext ac) xq) ?_)))))))))
 rintro _ u14 ag ⟨i12,rfl,af⟩
 refine zzg 8 56 _ fun _ _ ab ae=>qym (k_riAdd ae (hi1.ext (ac.t (ag.t ab))) (af.ext ab).raw xq xq) ?_
 rintro _ u20 g21 ⟨aa,rfl,ai⟩
 refine zzj ⟨26,aa.cs⟩ ty26 ?_
 refine zzb (zzo (ret0 [aa.v] ⟨zzr ty26 zze,trivial⟩ fun u23 ah=>?_))
 refine ⟨aa,rfl,?_⟩
 rw[Int.sub_eq_add_neg]
 exact (ai.ext ah)
theorem k_riCompare {u w:World} {i1:IL} {zN:Int} {K:Nat} {i2:IL} {zM:Int} {L:Nat} (d:Dat u w) (hi1:IntV u i1 zN K) (hi2:IntV u i2 zM L) (hK:K≤400000000) (hL:L≤400000000):qyc 54 #[i1.v,i2.v] w (Post u w fun v u'=>v=.int .i64 (cmpS zN zM)):=by
 refine zzm Tryz.func54 rfl Tryz.ntmps54 Tryz.results54 d ?_
 refine sq9 (zzk 2 ⟨26,i1.cs⟩ (zzk 3 ⟨26,i2.cs⟩ (zza 4 (zI 0) (zzb (sq9 (zzi 5 (.v (i1.v)) ty26 zze (zzi 6 (.v (i2.v)) ty26 zze (zzg 7 118 _ fun _ _ aa ab=>qym (k_riSub ab (hi1.ext aa) (hi2.ext aa) xq xq) ?_))))))))
 rintro _ u14 g15 ⟨i12,rfl,ad⟩
 refine zzg 8 60 _ fun _ _ ae ac=>qym (k_riSign ac (ad.ext ae).raw xq) ?_
 rintro _ u18 g19 rfl
 refine zza 4 (zI (cmpS (zN - zM) 0)) (zzb (zzo (ret0 [.int .i64 (cmpS (zN - zM) 0)] ⟨zzq,trivial⟩ fun u21 e22=>?_)))
 show Value.int _ _=Value.int _ _
 rw[cmp_self_sub]
theorem k_riMul {u w:World} {i1:IL} {zN:Int} {K:Nat} {i2:IL} {zM:Int} {L:Nat} (d:Dat u w) (hi1:IntV u i1 zN K) (hi2:IntV u i2 zM L) (hK:K≤250000000) (hL:L≤250000000):qyc 55 #[i1.v,i2.v] w (Post u w fun v u'=>∃i:IL,v=i.v∧IntN u' i (zN*zM) (K+L)):=by
 obtain ⟨N,hN,hzN⟩:=hi1
 obtain ⟨M,hM,hzM⟩:=hi2
 refine zzm Tryz.func55 rfl Tryz.ntmps55 Tryz.results55 d ?_
 refine sq9 (zzk 2 ⟨26,i1.cs⟩ (zzk 3 ⟨26,i2.cs⟩ (zzk 4 ⟨26,[.bool false,qyn]⟩ (zzb (zzd (zzz [0,1,0,4,15,0,32,0,128,480,1023,2047,4095] [(0,[]),(1,[]),(2,[]),(3,[]),(4,[]),(5,[]),(6,[]),(7,[]),(8,[]),(9,[]),(10,[]),(11,[]),(12,[])] xj xj (zza 5 (.adr 2 0) (zzi 6 (zB i1.s) ty4 zzl (zza 7 (.adr 3 0) (zzi 8 (zB i2.s) ty4 zzl (zza 9 (zB (!(i1.s==i2.s))) ?_)))))))))))
 refine zza 10 (.adr 2 1) (zzi 11 (.v (i1.m.v)) ty24 zzl (zza 12 (.adr 3 1) (zzi 13 (.v (i2.m.v)) ty24 zzl (zzg 14 119 _ fun _ _ ab ac=>qym (k_rnMul ac (hN.ext ab) (hM.ext ab) xq xq) ?_))))
 rintro _ u14 g15 ⟨ag,rfl,ae⟩
 refine zza 15 (.v (.agg #[.bool (!(i1.s==i2.s)),ag.v])) (zzg 16 64 _ fun _ _ af ad=>qym (k_riTrim ad (IntV.same (s := !(i1.s==i2.s)) (ae.ext af).raw) xq) ?_)
 rintro _ u20 g21 ⟨aa,rfl,ai⟩
 refine zzj ⟨26,aa.cs⟩ ty26 ?_
 refine zzb (zzo (ret0 [aa.v] ⟨zzr ty26 zze,trivial⟩ fun u23 ah=>?_))
 refine ⟨aa,rfl,IntN.more (K:=(K+L)) ?_ xq⟩
 rw[hzN,hzM,← sg_mul]
 exact (ai.ext ah)
theorem k_riGcd {u w:World} {i1:IL} {zN:Int} {K:Nat} {i2:IL} {zM:Int} {L:Nat} (d:Dat u w) (hi1:IntV u i1 zN K) (hi2:IntV u i2 zM L) (hK:K≤500000000) (hL:L≤500000000):qyc 61 #[i1.v,i2.v] w (Post u w fun v u'=>∃i:IL,v=i.v∧IntN u' i (Nat.gcd zN.natAbs zM.natAbs:Int) (max K L)):=by
 refine zzm Tryz.func61 rfl Tryz.ntmps61 Tryz.results61 d ?_
 refine sq9 (zzk 2 ⟨26,i1.cs⟩ (zzk 3 ⟨26,i2.cs⟩ (zzk 4 ⟨26,[.bool false,qyn]⟩ (zzb (sq9 (zza 5 (.adr 2 1) (zzi 6 (.v (i1.m.v)) ty24 zzl (zza 7 (.adr 3 1) (zzi 8 (.v (i2.m.v)) ty24 zzl (zzg 9 123 _ fun _ _ ab ac=>qym (k_rnGcd ac ((IntV.abs hi1).ext ab) ((IntV.abs hi2).ext ab) xq xq) ?_))))))))))
 rintro _ u14 g15 ⟨aa,rfl,ae⟩
 refine zza 10 (.v (.agg #[.bool false,aa.v])) (zzj ⟨26,[.bool false,aa.v]⟩ ty26 ?_)
 refine zzb (zzo (ret0 [.agg #[.bool false,aa.v]] ⟨zzr ty26 zze,trivial⟩ fun u17 ad=>?_))
 exact ⟨(⟨false,aa⟩:IL),rfl,(nat_intN (ae.ext ad))⟩
theorem k_riSame {u w:World} {i1 i2:IL} {z z':Int} {K L:Nat} (d:Dat u w) (hi1:IntN u i1 z K) (hi2:IntN u i2 z' L):qyc 197 #[i1.v,i2.v] w (Post u w fun v _=>v=.bool (decide (z=z'))):=by
 refine zzm Tryz.func197 rfl Tryz.ntmps197 Tryz.results197 d ?_
 refine sq9 (zzk 2 ⟨26,i1.cs⟩ (zzk 3 ⟨26,i2.cs⟩ (zza 4 (zB false) (zzb (sq9 (zza 5 (.adr 2 0) (zzi 6 (zB i1.s) ty4 zzl (zza 7 (.adr 3 0) (zzi 8 (zB i2.s) ty4 zzl (zza 9 (zB (i1.s==i2.s)) ?_))))))))))
 rcases Bool.eq_false_or_eq_true (i1.s==i2.s) with hs11 | hs11
 ·refine qbi 10 hs11 (zza 11 (.adr 2 1) ?_ (hw:=w1 5 true 10))
  refine zzi 12 (.v (i1.m.v)) ty24 zzl ?_ (hw:=w1 5 true 10)
  refine zza 13 (.adr 3 1) ?_ (hw:=w1 5 true 10)
  refine zzi 14 (.v (i2.m.v)) ty24 zzl ?_ (hw:=w1 5 true 10)
  refine zzg 15 198 _ (fun _ _ aa ab=>qym (k_rnSame ab ((int_mag hi1).ext aa) ((int_mag hi2).ext aa)) ?_) (hw:=w1 5 true 10)
  rintro _ u13 g14 rfl
  refine zza 16 (zB (decide ((z:Int).natAbs=(z':Int).natAbs))) (zza 4 (zB (decide ((z:Int).natAbs=(z':Int).natAbs))) (zzb (zzo (ret0 [.bool (decide ((z:Int).natAbs=(z':Int).natAbs))] ⟨zzq,trivial⟩ fun u16 e17=>?_))))
  show _=_
  rw[← same_int hi1 hi2,hs11]
  rfl
 refine qbi 10 hs11 (zzn 11 (uw 5 true false 10) (zzn 12 (uw 5 true false 10) (zzn 13 (uw 5 true false 10) (zzn 14 (uw 5 true false 10) (zzn 15 (uw 5 true false 10) (zza 16 (zB false) (zza 4 (zB false) (zzb (zzo (ret0 [.bool false] ⟨zzq,trivial⟩ fun u18 e19=>?_))))))))))
 show _=_
 rw[← same_int hi1 hi2,hs11]
 rfl
theorem k_riOf {u w:World} {z:Int} (d:Dat u w) (h0 : -9223372036854775808≤z) (h1:z≤9223372036854775807):qyc 21 #[.int .i64 z] w (Post u w fun v u'=>∃i:IL,v=i.v∧IntN u' i z 2):=by
 by_cases hneg:z<0
 ·refine zzm Tryz.func21 rfl Tryz.ntmps21 Tryz.results21 d ?_
  refine sq9 (zzk 2 ⟨26,[.bool false,qyn]⟩ (zzb (zzd (sq9 (zza 4 (zI z) (zyq 5 (x:=zB (decide (z<0))) (zB true) (by rw[show (decide (z<0))=true from yy]) (zzb (zyr xj (sq9 (zza 6 (zI z) (zyq 7 (x:=zI (IntKind.i64.wrap (z+1))) (zI (z+1)) (by rw[show (IntKind.i64.wrap (z+1))=(z+1) from (IntWalk.i64_in _ xq)]) ?_)))))))))))
  refine zyq 8 (x:=zI (IntKind.i64.wrap (0 - (z+1)))) (zI (-z - 1)) (by rw[show (IntKind.i64.wrap (0 - (z+1)))=(-z - 1) from xz]) (zyq 9 (x:=.v (.int .u64 (IntKind.u64.wrap (-z - 1)))) (.v (.int .u64 (-z - 1))) (by rw[show (IntKind.u64.wrap (-z - 1))=(-z - 1) from (IntWalk.u64_in _ xq)]) (zyq 10 (x:=.v (.int .u64 (IntKind.u64.wrap (-z - 1+1)))) (.v (.int .u64 (-z))) (by rw[show (IntKind.u64.wrap (-z - 1+1))=(-z) from (by rw[IntWalk.u64_in _ xq];omega)]) (zza 3 (.v (.int .u64 (-z))) (zzb (sq9 (zza 11 (.v (.int .u64 (-z))) (zyq 12 (x:=.v (.int .u32 (IntKind.u32.wrap (-z)))) (.v (.int .u32 ((-z)%4294967296))) (by rw[show (IntKind.u32.wrap (-z))=((-z)%4294967296) from (IntKind.wrap_u32 _)]) (zza 13 (.v (.int .u64 (-z))) (zyq 14 (x:=.v (.int .u64 (Int.fdiv (-z) (2^32)))) (.v (.int .u64 ((-z) / 4294967296))) (by rw[show (Int.fdiv (-z) (2^32))=((-z) / 4294967296) from (by rw[Int.fdiv_eq_ediv_of_nonneg _ yq];rfl)]) (zyq 15 (x:=.v (.int .u32 (IntKind.u32.wrap ((-z) / 4294967296)))) (.v (.int .u32 ((-z) / 4294967296))) (by rw[show (IntKind.u32.wrap ((-z) / 4294967296))=((-z) / 4294967296) from (IntWalk.u32_in _ xq)]) (zxx 16 ⟨79,[.int .u32 ((-z)%4294967296),.int .u32 ((-z) / 4294967296)]⟩ 2 (fun ab ai al ad=>?_))))))))))))
  refine zza 17 (.v (.agg #[.bool true,.slice (some ⟨ab,0,none⟩) 2 2])) (zzg 18 64 [.agg #[.bool true,.slice (some ⟨ab,0,none⟩) 2 2]] ?_)
  intro w15 u15 ae ac
  have k20:=k_riTrim ac (IntV.same (s:=true) ((two_data (N:=z.natAbs) ad xq xq xq).ext ae)) xq
  with_reducible refine zPm k20 ?_
  rintro _ ah aj ⟨aa,rfl,ag⟩
  refine zzj ⟨26,aa.cs⟩ ty26 ?_
  refine zzb (zzo (zzw (ret0 [aa.v] ⟨zzr ty26 zze,trivial⟩ fun ak af=>?_)))
  refine ⟨aa,rfl,IntN.more (K:=2) ?_ xq⟩
  have e:z=Nt.sg true z.natAbs:=by unfold Nt.sg;simp;omega
  rw[e]
  exact (ag.ext af)
 refine zzm Tryz.func21 rfl Tryz.ntmps21 Tryz.results21 d ?_
 refine sq9 (zzk 2 ⟨26,[.bool false,qyn]⟩ (zzb (zzd (sq9 (zza 4 (zI z) (zyq 5 (x:=zB (decide (z<0))) (zB false) (by rw[show (decide (z<0))=false from yy]) (zzb (zys xj (zzs (zzp ?_))))))))))
 refine sq9 (zza 19 (zI z) (zyq 20 (x:=.v (.int .u32 (IntKind.u32.wrap z))) (.v (.int .u32 (z%4294967296))) (by rw[show (IntKind.u32.wrap z)=(z%4294967296) from (IntKind.wrap_u32 _)]) (zza 21 (zI z) (zyq 22 (x:=.v (.int .u64 (IntKind.u64.wrap z))) (.v (.int .u64 (z))) (by rw[show (IntKind.u64.wrap z)=z from (IntWalk.u64_in _ xq)]) (zyq 23 (x:=.v (.int .u64 (Int.fdiv z (2^32)))) (.v (.int .u64 (z / 4294967296))) (by rw[show (Int.fdiv z (2^32))=(z / 4294967296) from (by rw[Int.fdiv_eq_ediv_of_nonneg _ yq];rfl)]) (zyq 24 (x:=.v (.int .u32 (IntKind.u32.wrap (z / 4294967296)))) (.v (.int .u32 (z / 4294967296))) (by rw[show (IntKind.u32.wrap (z / 4294967296))=(z / 4294967296) from (IntWalk.u32_in _ xq)]) (zxx 25 ⟨79,[.int .u32 (z%4294967296),.int .u32 (z / 4294967296)]⟩ 2 (fun ab ai al ad=>?_))))))))
 refine zza 26 (.v (.agg #[.bool false,.slice (some ⟨ab,0,none⟩) 2 2])) (zzg 27 64 _ fun _ _ ae ac=>qym (k_riTrim ac (nat_int ((two_data (N:=z.natAbs) ad xq xq xq).ext ae)) xq) ?_)
 rintro _ ah aj ⟨aa,rfl,ag⟩
 refine zzj ⟨26,aa.cs⟩ ty26 ?_
 refine zzb (zzo (ret0 [aa.v] ⟨zzr ty26 zze,trivial⟩ fun ak af=>?_))
 refine ⟨aa,rfl,IntN.more (K:=2) ?_ xq⟩
 have e:z=Nt.sg false z.natAbs:=by unfold Nt.sg;simp;omega
 rw[e]
 exact (ag.ext af)
theorem k_riDiv {u w:World} {i1:IL} {zN:Int} {K:Nat} {i2:IL} {zM:Int} {L:Nat} (d:Dat u w) (hi1:IntV u i1 zN K) (hi2:IntV u i2 zM L) (hM0:zM≠0) (hK:K≤400000000) (hL:L≤400000000):qyc 62 #[i1.v,i2.v] w (Post u w fun v u'=>∃i j:IL,v=.tuple #[i.v,j.v,.int .i64 0]∧IntN u' i (zN / zM) (K+1)∧IntN u' j (zN%zM) L):=by
 have hM:0<zM.natAbs:=Int.natAbs_pos.2 hM0
 have hL1:1≤L:=by have h2:=hi2.size;have h3:=dl_mono (x:=zM.natAbs) (y:=1) xq;rw[dl_one] at h3;omega
 refine zzm Tryz.func62 rfl Tryz.ntmps62 Tryz.results62 d ?_
 refine sq9 (zzk 2 ⟨26,i1.cs⟩ (zzk 3 ⟨26,i2.cs⟩ (zzk 4 ⟨26,[.bool false,qyn]⟩ (zzk 5 ⟨26,[.bool false,qyn]⟩ (zza 6 (zI 0) (zzb (zzd (zzz [0,1,0,7,15,31] [(0,[]),(2,[]),(1,[]),(3,[]),(4,[]),(5,[])] xj xj (zzi 10 (.v (i1.v)) ty26 zze (zzi 12 (.v (i2.v)) ty26 zze (zzg 11 64 _ fun _ _ av aM=>qym (k_riTrim aM (hi1.ext av) xq) ?_)))))))))))
 rintro _ u14 aI ⟨ab,rfl,aj⟩
 refine zzg 13 64 _ fun _ _ au aN=>qym (k_riTrim aN (hi2.ext (av.t (aI.t au))) xq) ?_
 rintro _ u20 a0 ⟨ac,rfl,ai⟩
 refine zzj ⟨26,ab.cs⟩ ty26 ?_
 refine zzj ⟨26,ac.cs⟩ ty26 ?_
 refine zzb (sq9 (zza 15 (.adr 2 1) (zzi 16 (.v (ab.m.v)) ty24 zzl (zza 17 (.adr 3 1) (zzi 18 (.v (ac.m.v)) ty24 zzl (zzg 19 124 _ fun _ _ am aX=>qym (k_rnDivMod aX ((int_mag aj).ext (au.t (a0.t am))).raw ((int_mag ai).ext am).raw hM xq xq) ?_))))))
 rintro _ u28 aR ⟨ae,aa,rfl,aq,ah⟩
 refine zza 14 (.v (.tuple #[ae.v,aa.v,.int .i64 0])) (zza 20 (.v (ae.v)) (zza 21 (.v (aa.v)) (zza 22 (zI 0) (zza 7 (.v (ae.v)) (zza 8 (.v (aa.v)) (zza 9 (zI 0) (zzb (zzd (sq9 (zza 23 (zI 0) (zza 24 (zB false) ?_)))))))))))
 refine zzb (zys xj (zzs (zzp ?_)))
 refine zzd (sq9 (zza 28 (.adr 2 0) (zzi 29 (zB ab.s) ty4 zzl ?_)))
 rcases Bool.eq_false_or_eq_true ab.s with hs31 | hs31
 ·refine qbi 30 hs31 (zza 31 (.v (aa.v)) ?_ (hw:=w1 2 true 30))
  refine zza 32 (zI aa.n) ?_ (hw:=w1 2 true 30)
  refine zza 33 (zB (decide ((0:Int)<(aa.n:Int)))) ?_ (hw:=w1 2 true 30)
  refine zza 34 (zB (decide ((0:Int)<(aa.n:Int)))) (zzc 52 [(2,.adr 2 0),(3,.adr 3 0),(4,.adr 4 0),(5,.adr 5 0),(7,.v (ae.v)),(8,.v (aa.v)),(34,zB (decide ((0:Int)<(aa.n:Int))))] [(2,⟨26,ab.cs⟩),(3,⟨26,ac.cs⟩),(4,⟨26,[.bool false,qyn]⟩),(5,⟨26,[.bool false,qyn]⟩)] (zzu (b:=decide ((0:Int)<(aa.n:Int))) xj (fun ad=>?_) (fun ad=>?_)))
  ·have qhb32:=qyt ad
   refine zzz [0,0,3,0,8,0,63,127,255] [(0,[]),(1,[]),(3,[]),(4,[]),(5,[]),(2,[36]),(6,[]),(7,[]),(8,[])] xj xj (zza 35 (.v (ae.v)) (sy_lit 36 ⟨79,[.int .u32 1]⟩ 1 ?_))
   refine zza 38 (.adr 3 1) (zzi 39 (.v (ac.m.v)) ty24 zzl (zza 40 (.v (aa.v)) (zyo 37 120 [.v (ae.v),.slc 36 0 1 1] [36] (.inr rfl) (pub_mk xw) (k:=?_))))
   intro ak w33 aV ap aJ aW
   have aD:aV.heap[ak 36]? = some (.cells #[.int .u32 1] 79 (0,0)):=aW 36 zv _ rfl
   obtain ⟨b34,af⟩:∃b,ak 36=b:=⟨_,rfl⟩
   rw[af] at aD
   show Calls _ _ #[.slice ae.a ae.n ae.c,.slice (some ⟨ak 36,0,none⟩) 1 1] _ _
   rw[af]
   have k40:=k_rnAdd aJ (aq.ext ap).raw (one_data aD).raw xq xq
   with_reducible refine zPm k40 ?_
   rintro _ u38 aw ⟨an,rfl,aY⟩
   refine zzg 41 122 _ fun _ _ al aO=>qym (k_rnSub aO ((int_mag ai).ext (am.t (aR.t (ap.t (aw.t al))))).raw (ah.ext (ap.t (aw.t al))).raw xq xq) ?_
   rintro _ u44 aF ⟨ag,rfl,aT⟩
   refine zza 7 (.v (an.v)) (zza 8 (.v (ag.v)) (zzb (sq9 (zza 42 (.adr 2 0) (zzi 43 (zB ab.s) ty4 zzl (zza 44 (.adr 3 0) (zzi 45 (zB ac.s) ty4 zzl (zza 46 (zB (!(ab.s==ac.s))) (zza 47 (.v (an.v)) (zza 48 (.v (.agg #[.bool (!(ab.s==ac.s)),an.v])) (zzg 49 64 _ fun _ _ aA aZ=>qym (k_riTrim aZ (IntV.same (s := !(ab.s==ac.s)) (aY.ext (al.t (aF.t aA))).raw) xq) ?_)))))))))))
   rintro _ u50 aQ ⟨ar,rfl,aP⟩
   refine zza 50 (.v (ag.v)) (zza 51 (.v (.agg #[.bool false,ag.v])) (zzj ⟨26,ar.cs⟩ ty26 ?_))
   refine zzj ⟨26,[.bool false,ag.v]⟩ ty26 ?_
   refine zza 6 (zI 0) (zzb (zzo (ret0 [ar.v,.agg #[.bool false,ag.v],.int .i64 0] ⟨zzr ty26 zze,zzr ty26 zze,zzq,trivial⟩ fun u53 aC=>?_)))
   have hs:=aj.1
   have ht:=ai.1
   have hr:=ah.pos
   have qhs31:=hs31
   have qhb32:=ad
   have key:=ediv_neg' zN zM rfl rfl hM (by rw[hs] at hs31;simpa using hs31) (by simp at ad;omega)
   have hK1:1≤K:=by have h2:=hi1.size;have h3:=(dl_pos (x:=zN.natAbs)).2 (by rw[hs] at hs31;simp at hs31;omega);omega
   rw[← hs,← ht] at key
   refine ⟨ar,(⟨false,ag⟩:IL),rfl,IntN.more (K:=(max K 1+1)) ?_ xq,IntN.more (K:=L) ?_ xq⟩
   ·rw[key.1];exact (aP.ext aC)
   rw[key.2];exact (nat_intN (aT.ext (aA.t (aQ.t aC))))
  have qhb32:=qyf ad
  refine zzs (zzp ?_)
  refine sq9 (zza 42 (.adr 2 0) (zzi 43 (zB ab.s) ty4 zzl (zza 44 (.adr 3 0) (zzi 45 (zB ac.s) ty4 zzl (zza 46 (zB (!(ab.s==ac.s))) (zza 47 (.v (ae.v)) (zza 48 (.v (.agg #[.bool (!(ab.s==ac.s)),ae.v])) (zzg 49 64 _ fun _ _ aE aG=>qym (k_riTrim aG (IntV.same (s := !(ab.s==ac.s)) (aq.ext aE).raw) xq) ?_))))))))
  rintro _ u58 aH ⟨ao,rfl,aS⟩
  refine zza 50 (.v (aa.v)) (zza 51 (.v (.agg #[.bool false,aa.v])) (zzj ⟨26,ao.cs⟩ ty26 ?_))
  refine zzj ⟨26,[.bool false,aa.v]⟩ ty26 ?_
  refine zza 6 (zI 0) (zzb (zzo (ret0 [ao.v,.agg #[.bool false,aa.v],.int .i64 0] ⟨zzr ty26 zze,zzr ty26 zze,zzq,trivial⟩ fun u61 ay=>?_)))
  have hs:=aj.1
  have ht:=ai.1
  have hr:=ah.pos
  have qhs31:=hs31
  have qhb32:=ad
  have key:=ediv_pos zN zM rfl rfl hM (fun hc=>by simp at ad;omega)
  rw[← hs,← ht] at key
  refine ⟨ao,(⟨false,aa⟩:IL),rfl,IntN.more (K:=K) ?_ xq,IntN.more (K:=L) ?_ xq⟩
  ·rw[key.1];exact (aS.ext ay)
  rw[key.2];exact (nat_intN (ah.ext (aE.t (aH.t ay))))
 refine qbi 30 hs31 (zzn 31 (uw 2 true false 30) (zzn 32 (uw 2 true false 30) (zzn 33 (uw 2 true false 30) (zza 34 (zB false) (zzc 52 [(2,.adr 2 0),(3,.adr 3 0),(4,.adr 4 0),(5,.adr 5 0),(7,.v (ae.v)),(8,.v (aa.v)),(34,zB false)] [(2,⟨26,ab.cs⟩),(3,⟨26,ac.cs⟩),(4,⟨26,[.bool false,qyn]⟩),(5,⟨26,[.bool false,qyn]⟩)] (zys xj (zzs (zzp ?_))))))))
 refine sq9 (zza 42 (.adr 2 0) (zzi 43 (zB ab.s) ty4 zzl (zza 44 (.adr 3 0) (zzi 45 (zB ac.s) ty4 zzl (zza 46 (zB (!(ab.s==ac.s))) (zza 47 (.v (ae.v)) (zza 48 (.v (.agg #[.bool (!(ab.s==ac.s)),ae.v])) (zzg 49 64 _ fun _ _ aB aK=>qym (k_riTrim aK (IntV.same (s := !(ab.s==ac.s)) (aq.ext aB).raw) xq) ?_))))))))
 rintro _ u66 aU ⟨i64,rfl,aL⟩
 refine zza 50 (.v (aa.v)) (zza 51 (.v (.agg #[.bool false,aa.v])) (zzj ⟨26,i64.cs⟩ ty26 ?_))
 refine zzj ⟨26,[.bool false,aa.v]⟩ ty26 ?_
 refine zza 6 (zI 0) (zzb (zzo (ret0 [i64.v,.agg #[.bool false,aa.v],.int .i64 0] ⟨zzr ty26 zze,zzr ty26 zze,zzq,trivial⟩ fun u69 ax=>?_)))
 have hs:=aj.1
 have ht:=ai.1
 have hr:=ah.pos
 have qhs31:=hs31
 have key:=ediv_pos zN zM rfl rfl hM (fun hc=>by rw[hs] at hs31;simp at hs31;omega)
 rw[← hs,← ht] at key
 refine ⟨i64,(⟨false,aa⟩:IL),rfl,IntN.more (K:=K) ?_ xq,IntN.more (K:=L) ?_ xq⟩
 ·rw[key.1];exact (aL.ext ax)
 rw[key.2];exact (nat_intN (ah.ext (aB.t (aU.t ax))))
end Go.Proofs.YtedobdigeeflcaaGreat

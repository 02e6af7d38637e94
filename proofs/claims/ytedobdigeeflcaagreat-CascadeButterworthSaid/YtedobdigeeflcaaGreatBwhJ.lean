/- Parts of the proof: contracts of functions, each walked once, and plain laws. -/
import Derived.Test.YtedobdigeeflcaaGreatBwhI
set_option linter.unusedVariables false
set_option maxHeartbeats 8000000
namespace Go.Proofs.YtedobdigeeflcaaGreat
open Nt
open Go.RowKit
namespace Nt
open Pol
theorem evL_npow (l:List Rat) (x:Rat):∀n:Nat,evL (Pol.npow (Pol.mk' l) n).l x=evL l x^n
 | 0=>by rw[Rat.pow_zero];show evL (1:Pol).l x=1;rw[show (1:Pol).l=[1] by decide +kernel];simp[evL];grind
 | n+1=>by rw[npow_l,ev_mulL,evL_npow l x n,Rat.pow_succ]
def bwDen (n:Nat) (c q:Rat):List Rat:=trimQ (addQ (Pol.npow (Pol.mk' bp) n).l (trimQ ((Pol.npow (Pol.mk' (trimQ (bm.map (· * c)))) n).l.map (· * q))))
theorem bwDen_ev (n:Nat) (c q x:Rat):evL (bwDen n c q) x=(1+x)^n+q*(c*(1 - x))^n:=by
 unfold bwDen
 rw[ev_addL,evL_trim,evL_map,evL_npow,evL_npow,bp_ev,evL_trim,evL_map,bm_ev,Rat.mul_comm q,Rat.mul_comm c]
theorem bwS_all (n:Nat) (w:Rat) (P:List Rat×List Rat→Prop) (h:∀k,P (nmQ,dnP w (bwT n k))):∀k p,p∈bwS n w k→P p
 | 0,p,hp=>by cases hp
 | k+1,p,hp=>by
  rw[bwS,List.mem_append,List.mem_singleton] at hp
  rcases hp with hp | rfl
  ·exact bwS_all n w P h k p hp
  exact h k
theorem bwSs_all (n:Nat) (w:Rat) (P:List Rat×List Rat→Prop) (h:∀k,P (nmQ,dnP w (bwT n k))) (h1:P (bp,dn1 w)):∀p∈bwSs n w,P p:=fun p hp=>by
 unfold bwSs at hp
 split at hp
 ·rw[List.mem_append,List.mem_singleton] at hp
  rcases hp with hp | rfl
  ·exact bwS_all n w P h _ p hp
  exact h1
 exact bwS_all n w P h _ p hp
theorem getD_mem' {α:Type} {l:List α} {i:Nat} {z:α} (h:i<l.length):l.getD i z∈l:=by
 rw[qyg,List.getElem?_eq_getElem h];exact List.getElem_mem h
theorem bwSs_len (n:Nat) (w:Rat):(bwSs n w).length=n / 2+n%2:=by
 unfold bwSs
 split
 ·rw[List.length_append,bwS_len];simp;omega
 rw[bwS_len];omega
theorem bwSs_one {n k:Nat} {w:Rat} (hk:k<(bwSs n w).length):evL ((bwSs n w).getD k ([],[])).1 ((1:Int):Rat)=evL ((bwSs n w).getD k ([],[])).2 ((1:Int):Rat) :=
 bwSs_all n w (fun p=>evL p.1 ((1:Int):Rat)=evL p.2 ((1:Int):Rat)) (fun k=>by rw[nmQ_ev,dnP_ev,show ((1:Int):Rat)=1 from rfl];grind) (by rw[bp_ev,dn1_ev,show ((1:Int):Rat)=1 from rfl];grind) _ (getD_mem' hk)
theorem bp_len:bp.length≤2:=by decide
theorem bm_len:bm.length≤2:=by decide
theorem bwSs_sm {n k:Nat} {w:Rat} (hk:k<(bwSs n w).length):((bwSs n w).getD k ([],[])).1.length≤3∧((bwSs n w).getD k ([],[])).2.length≤3 :=
 bwSs_all n w (fun p=>p.1.length≤3∧p.2.length≤3) (fun k=>⟨zxt bp_len bp_len,add_lenQ (add_lenQ (map_lenQ (zxt bm_len bm_len)) (map_lenQ (zxt bm_len bp_len))) (zxt bp_len bp_len)⟩) ⟨(by decide:bp.length≤3),Nat.le_trans (add_lenQ (map_lenQ bm_len) bp_len) yq⟩ _ (getD_mem' hk)
theorem take_S {α:Type} (l:List α) {k:Nat} (z:α) (hk:k<l.length):l.take (k+1)=l.take k++[l.getD k z]:=by
 rw[List.take_succ_eq_append_getElem hk,qyg,List.getElem?_eq_getElem hk];rfl
theorem pdN_S {l:List (List Rat×List Rat)} {k:Nat} (x:Rat) (hk:k<l.length):pdN x (l.take (k+1))=pdN x (l.take k)*evL (l.getD k ([],[])).1 x:=by rw[take_S l ([],[]) hk,prN_app]
theorem pdD_S {l:List (List Rat×List Rat)} {k:Nat} (x:Rat) (hk:k<l.length):pdD x (l.take (k+1))=pdD x (l.take k)*evL (l.getD k ([],[])).2 x:=by rw[take_S l ([],[]) hk,prD_app]
theorem absQ_le' {x y:Rat} (h1:x≤y) (h2 : -y≤x):absQ x≤y:=by unfold absQ;split<;>grind
theorem bw_law {n:Nat} (h1:1≤n) (h8:n≤8) {q c x:Rat} (hq:1 / 4≤q) (hc:0≤c) (hx0 : -1<x) (hx1:x≤1):absQ (pdD x (bwSs n (c*gr 40 (rtN q n 40:Int))) - evL (bwDen n c q) x)*((1073741824:Int):Rat)≤evL (bwDen n c q) x:=by
 rw[bwSs_D,bwDen_ev]
 obtain ⟨k1,k2⟩:=bw_gap h1 h8 hq hc (m:=1 - x) (p:=1+x) (by grind) (by grind)
 rw[show u2 30=1073741824 by decide] at k1 k2
 generalize bwE n (c*gr 40 (rtN q n 40:Int)*(1 - x)) (1+x)=B at *
 generalize (1+x)^n+q*(c*(1 - x))^n=W at *
 have e:absQ (B - W)*((1073741824:Int):Rat)=absQ ((B - W)*((1073741824:Int):Rat)):=by
  have h3:(0:Rat)<((1073741824:Int):Rat):=by decide
  generalize ((1073741824:Int):Rat)=U at *
  unfold absQ
  by_cases h:B - W<0
  ·have h4:(B - W)*U<0:=by have:=Rat.mul_lt_mul_of_pos_right h h3;rwa [Rat.zero_mul] at this
   rw[if_pos h,if_pos h4,Rat.neg_mul]
  have h4:¬(B - W)*U<0:=by have:=Rat.mul_nonneg (by grind:0≤B - W) (Rat.le_of_lt h3);grind
  rw[if_neg h,if_neg h4]
 rw[e]
 exact absQ_le' k1 k2
theorem edge_ok {j:Nat} (hj:j<15):((-1:Int):Rat)<((((j:Int) - 7:Int):Rat) / ((8:Int):Rat))∧((((j:Int) - 7:Int):Rat) / ((8:Int):Rat))<((1:Int):Rat)∧Wh ((((1:Int):Rat)+((((j:Int) - 7:Int):Rat) / ((8:Int):Rat))) / (((1:Int):Rat) - ((((j:Int) - 7:Int):Rat) / ((8:Int):Rat)))*(((15 - j:Nat):Int):Rat)) 14:=by
 have hh:∀j:Nat,j<15→((-1:Int):Rat)<((((j:Int) - 7:Int):Rat) / ((8:Int):Rat))∧((((j:Int) - 7:Int):Rat) / ((8:Int):Rat))<((1:Int):Rat)∧(((1:Int):Rat)+((((j:Int) - 7:Int):Rat) / ((8:Int):Rat))) / (((1:Int):Rat) - ((((j:Int) - 7:Int):Rat) / ((8:Int):Rat)))*(((15 - j:Nat):Int):Rat)=(((j+1:Nat):Int):Rat):=by decide +kernel
 obtain ⟨h1,h2,h3⟩:=hh j hj
 have h9:((j+1:Nat):Int).natAbs≤2^14:=by
  rw[Int.natAbs_natCast]
  have:j+1≤16384:=by omega
  exact this
 exact ⟨h1,h2,⟨((j+1:Nat):Int),h3,h9⟩⟩
theorem rip_ok {i:Nat} (hi:i<15):0<((1+(i:Int):Int):Rat) / ((4:Int):Rat)∧1 / 4≤((1+(i:Int):Int):Rat) / ((4:Int):Rat):=by
 have hh:∀i:Nat,i<15→0<((1+(i:Int):Int):Rat) / ((4:Int):Rat)∧1 / 4≤((1+(i:Int):Int):Rat) / ((4:Int):Rat):=by decide +kernel
 exact hh i hi
theorem at_ok {i:Nat} (hi:i<31) : -1<(((i:Int) - 15:Int):Rat) / ((16:Int):Rat)∧(((i:Int) - 15:Int):Rat) / ((16:Int):Rat)≤1:=by
 have hh:∀i:Nat,i<31 → -1<(((i:Int) - 15:Int):Rat) / ((16:Int):Rat)∧(((i:Int) - 15:Int):Rat) / ((16:Int):Rat)≤1:=by decide +kernel
 exact hh i hi
end Nt
namespace Nt
def wq (z f:Int):Rat:=((z:Int):Rat) / ((p2i f:Int):Rat)
end Nt
section
variable {P:Program} {ops:Array Oper} {w0:Base} {u0:World} {S:St} {u:World}
def exitsK (P:Program) (ops:Array Oper) (w0:Base) (u0:World) (K:List (Nat×List Tmp)→St→World→Prop):List (Nat×List Tmp)→St→World→Prop
 | [],S,u=>K [] S u
 | p::F,S,u=>K (p::F) S u∧sym P ops w0 u0 false [opAt ops p] S u (exitsK P ops w0 u0 K F)
theorem zwo {K:List (Nat×List Tmp)→St→World→Prop} (hK:∀F,Mono (K F)):∀F,Mono (exitsK P ops w0 u0 K F)
 | []=>hK []
 | p::F=>fun S u u' e h=>⟨hK _ S u u' e h.1,zwd (zwo hK F) S u u' e h.2⟩
theorem exitsK_now {K:List (Nat×List Tmp)→St→World→Prop} {F:List (Nat×List Tmp)} (h:exitsK P ops w0 u0 K F S u):K F S u:=by
 cases F with
 | nil=>exact h
 | cons p F=>exact h.1
theorem sym_app {K:St→World→Prop} (hK:Mono K) {seq:Bool}:∀ (l1 l2:List (Oper×List Tmp)) (S:St) (u:World),sym P ops w0 u0 seq l1 S u (fun S u=>sym P ops w0 u0 seq l2 S u K)→sym P ops w0 u0 seq (l1++l2) S u K
 | [],l2,S,u,h=>h
 | e::l1,l2,S,u,h=>one_mono (w0:=w0) (u0:=u0) (fun S u h=>sym_app hK l1 l2 S u h) (zwd (zwd hK)) (Ext.refl u) h
theorem sym_mono_k {K K':St→World→Prop} {seq:Bool}:∀ {l:List (Oper×List Tmp)} {S:St} {u:World},(∀S u,K S u→K' S u)→Mono K→sym P ops w0 u0 seq l S u K→sym P ops w0 u0 seq l S u K'
 | [],S,u,hk,_,h=>hk S u h
 | e::l,S,u,hk,hm,h=>one_mono (w0:=w0) (u0:=u0) (fun S u h=>sym_mono_k hk hm h) (zwd hm) (Ext.refl u) h
def backB (ops:Array Oper):List (Nat×List Tmp)→Bool
 | []=>true
 | x::l=>l.all (fun y => !((ops.getD x.1 default).after.toList.any fun e=>Region.binds .any e&&e.on==y.1))&&backB ops l
theorem backB_spec:∀ {l:List (Nat×List Tmp)},backB ops l=true→l.Pairwise (fun x y=>((ops.getD x.1 default).after.toList.any fun e=>Region.binds .any e&&e.on==y.1)=false)
 | [],_=>List.Pairwise.nil
 | x::l,h=>by
  simp only[backB,Bool.and_eq_true] at h
  exact List.Pairwise.cons (fun y hy=>by have:=List.all_eq_true.1 h.1 y hy;simpa using this) (backB_spec h.2)
structure LeftX (ops:Array Oper) (M:List Nat) (L:List (Nat×List Tmp)) (listed:Array Bool):Prop where
 nodup:(L.map (·.1)).Nodup
 back:L.Pairwise (fun x y=>((ops.getD x.1 default).after.toList.any fun e=>Region.binds .any e&&e.on==y.1)=false)
 size:listed.size=ops.size
 mem:∀i,i<ops.size→(listed.getD i true=false↔i∈L.map (·.1))
 lt:∀x∈L,x.1<ops.size∧∀e∈(ops.getD x.1 default).after,Region.binds .any e=true→e.on≠x.1∧e.on<ops.size
 mask:∀x∈L,M.getD x.1 0=reachOf M (ops.getD x.1 default)
 closed:∀j,j<ops.size→j∉L.map (·.1)→∀x,(M.getD j 0).testBit x=true→x∉L.map (·.1)
theorem LeftX.ready_mem {M:List Nat} {L:List (Nat×List Tmp)} {listed:Array Bool} (h:LeftX ops M L listed) {i:Nat} (hi:i∈Region.ready .any ops listed):i<ops.size∧i∈L.map (·.1)∧∀e∈(ops.getD i default).after,Region.binds .any e=true→e.on∉L.map (·.1):=by
 obtain ⟨h0,o,ho,hall⟩:=mem_ready.1 hi
 have hlt:i<ops.size:=(Array.getElem?_eq_some_iff.1 ho).1
 have hm:=(h.mem i hlt).1 h0
 refine ⟨hlt,hm,fun e he hb=>?_⟩
 rw[get_op hlt] at ho
 injection ho with ho
 obtain ⟨x,hx,hxi⟩:=List.mem_map.1 hm
 have hl:=((h.lt x hx).2 e (by rw[hxi];exact he) hb).2
 have:=hall e (by rw[← ho];exact he) hb
 rw[listed_iff (by rw[h.size];exact hl),h.mem e.on hl] at this
 exact this
theorem LeftX.head_ready {M:List Nat} {x:Nat×List Tmp} {L:List (Nat×List Tmp)} {listed:Array Bool} (h:LeftX ops M (x::L) listed):x.1∈Region.ready .any ops listed:=by
 obtain ⟨h1,h2⟩:=h.lt x (List.mem_cons_self ..)
 refine mem_ready.2 ⟨(h.mem x.1 h1).2 zv,_,get_op h1,fun e he hb=>?_⟩
 obtain ⟨h3,h4⟩:=h2 e he hb
 rw[listed_iff (by rw[h.size];exact h4),h.mem e.on h4]
 intro hm
 obtain ⟨y,hy,hye⟩:=List.mem_map.1 hm
 rcases List.mem_cons.1 hy with rfl | hy
 ·exact h3 hye.symm
 have:=(List.pairwise_cons.1 h.back).1 y hy
 have h5:((ops.getD x.1 default).after.toList.any fun e=>Region.binds .any e&&e.on==y.1)=true:=List.any_eq_true.2 ⟨e,by simpa using he,by simp[hb,hye]⟩
 rw[h5] at this;cases this
theorem LeftX.out {M:List Nat} {L:List (Nat×List Tmp)} {listed:Array Bool} (h:LeftX ops M L listed) {x:Nat×List Tmp} (hx:x∈L) (hout:∀e∈(ops.getD x.1 default).after,Region.binds .any e=true→e.on∉L.map (·.1)) :
  ∀j,(M.getD x.1 0).testBit j=true→j∉L.map (·.1):=by
 intro j hj
 rw[h.mask x hx] at hj
 rcases foldl_bit M j _ _ hj with h0 | ⟨e,he,hb,h1⟩
 ·simp at h0
 have he':e∈(ops.getD x.1 default).after:=by simpa using he
 have hn:=hout e he' hb
 rcases h1 with rfl | h1
 ·exact hn
 exact h.closed e.on ((h.lt x hx).2 e he' hb).2 hn j h1
theorem LeftX.step {M:List Nat} {pre post:List (Nat×List Tmp)} {y:Nat×List Tmp} {listed:Array Bool} (hL:LeftX ops M (pre++y::post) listed) (hro:∀j,(M.getD y.1 0).testBit j=true→j∉(pre++y::post).map (·.1)):LeftX ops M (pre++post) (listed.setIfInBounds y.1 true):=by
 have hsub:(pre++post).Sublist (pre++y::post):=List.Sublist.append_left (List.sublist_cons_self _ _) _
 have hyn:y.1∉(pre++post).map (·.1):=by
  have:=hL.nodup
  rw[List.map_append,List.map_cons] at this
  have h2:=List.nodup_append.1 this
  have h3:=(List.nodup_cons.1 h2.2.1).1
  intro hm
  rw[List.map_append] at hm
  rcases List.mem_append.1 hm with hm | hm
  ·exact h2.2.2 y.1 hm y.1 (List.mem_cons_self ..) rfl
  exact h3 hm
 have hmem:∀j,j≠y.1→(j∈(pre++post).map (·.1)↔j∈(pre++y::post).map (·.1)):=fun j hj=>by simp[hj]
 refine ⟨hL.nodup.sublist (hsub.map _),hL.back.sublist hsub,by simp[hL.size],fun j hj=>?_,fun x hx=>hL.lt x (hsub.mem hx),fun x hx=>hL.mask x (hsub.mem hx),fun j hj hjn x hx=>?_⟩
 ·by_cases e:j=y.1
  ·subst e
   constructor
   ·intro h
    simp[hL.size,hj] at h
   intro h;exact absurd h hyn
  rw[getD_set_ne true (Ne.symm e),hmem j e]
  exact hL.mem j hj
 intro hmx
 by_cases e:j=y.1
 ·subst e;exact hro x hx ((hsub.map _).mem hmx)
 exact hL.closed j hj (fun h=>hjn ((hmem j e).2 h)) x hx ((hsub.map _).mem hmx)
theorem chainB_pair {M:List Nat}:∀ {L:List (Nat×List Tmp)},chainB M L=true→L.Pairwise (fun x y=>(M.getD y.1 0).testBit x.1=true)
 | [],_=>List.Pairwise.nil
 | x::l,h=>by
  simp only[chainB,Bool.and_eq_true,List.all_eq_true] at h
  exact List.Pairwise.cons h.1 (chainB_pair h.2)
theorem LeftX.toLeft {M:List Nat} {L:List (Nat×List Tmp)} {listed:Array Bool} (h:LeftX ops M L listed) (hc:chainB M L=true):Left ops M L listed :=
 ⟨h.nodup,List.Pairwise.imp₂ (fun x y (h1:(M.getD y.1 0).testBit x.1=true) h2=>by simp only[pairOk,Bool.and_eq_true,Bool.or_eq_true,Bool.not_eq_true'];exact ⟨.inl h1,h2⟩) (chainB_pair hc) h.back,h.size,h.mem,h.lt,h.mask,h.closed⟩
theorem any_symE {M:List Nat} {T:List (Nat×List Tmp)} {y:Nat×List Tmp} {K:List (Nat×List Tmp)→St→World→Prop} {Q:Exit→Act→World→Prop} (hK:∀F,Mono (K F))
  (hQ:∀F S u,K F S u→∀B a w,Rep w0 u0 S B a w u→wpList P ops Q ((y::(F++T)).map fun x=>ops.getD x.1 default) a w) (hyT:∀t∈T,(M.getD t.1 0).testBit y.1=true) :
  ∀ (fuel:Nat) (L F:List (Nat×List Tmp)) (listed:Array Bool) (S:St) (B:Tmp→Nat) (a:Act) (w u:World),L.length+F.length=fuel→chainB M (F++T)=true→(L++F).Pairwise (fun x y=>pairOk ops M x y=true)→LeftX ops M (L++F++y::T) listed→(∀x∈L,(M.getD y.1 0).testBit x.1=true)→(∀x∈L++F,∀t∈T,(M.getD t.1 0).testBit x.1=true)→Rep w0 u0 S B a w u →
   sym P ops w0 u0 false (L.map (opAt ops)) S u (exitsK P ops w0 u0 K F)→wpAny P .any ops Q (fuel+1+T.length) listed a w:=by
 intro fuel
 induction fuel with
 | zero =>
  intro L F listed S B a w u hl hc hp hL hy hT hr hs
  obtain rfl:=List.length_eq_zero_iff.1 (show L.length=0 by omega)
  obtain rfl:=List.length_eq_zero_iff.1 (show F.length=0 by omega)
  have hcc:chainB M (y::T)=true:=by
   simp only[chainB,Bool.and_eq_true,List.all_eq_true]
   exact ⟨fun t ht=>hyT t ht,by simpa using hc⟩
  rw[Nat.zero_add,Nat.add_comm]
  have h9:=hQ [] S u hs B a w hr
  exact any_chain (y::T) listed a w ((show LeftX ops M (y::T) listed from hL).toLeft hcc) hcc (by simpa using h9)
 | succ fuel ih =>
  intro L F listed S B a w u hl hc hp hL hy hT hr hs
  rw[show fuel+1+1+T.length=(fuel+1+T.length)+1 by omega]
  refine ⟨fun e=>?_,fun i hi=>?_⟩
  ·cases hLF:L++F with
   | nil=>have h8:=congrArg List.length hLF;rw[List.length_append] at h8;rw[h8] at hl;cases hl
   | cons x L' =>
    rw[hLF] at hL
    have:=LeftX.head_ready (L:=L'++y::T) hL
    rw[e] at this
    cases this
  obtain ⟨hlt,hm,hout⟩:=hL.ready_mem hi
  obtain ⟨z,hz,rfl⟩:=List.mem_map.1 hm
  have hro:=hL.out hz hout
  have key:ops[z.1]? = some (opAt ops z).1:=get_op hlt
  -- an operation of the first ones: what stands before it may stand behind it
  have front:∀ (pre post F':List (Nat×List Tmp)),L++F++y::T=pre++z::(post++F'++y::T)→(pre++z::post).Pairwise (fun x y=>pairOk ops M x y=true)→(pre++post++F').Pairwise (fun x y=>pairOk ops M x y=true)→pre.length+post.length+F'.length=fuel→chainB M (F'++T)=true→(∀x∈pre++post,(M.getD y.1 0).testBit x.1=true)→(∀x∈pre++post++F',∀t∈T,(M.getD t.1 0).testBit x.1=true) →
    sym P ops w0 u0 false ((pre++z::post).map (opAt ops)) S u (exitsK P ops w0 u0 K F')→wpOp P ops Q z.1 (wpAny P .any ops Q (fuel+1+T.length) (listed.setIfInBounds z.1 true)) a w:=by
   intro pre post F' he ab ac hfl hc' hy' hT' hs'
   have hsw:∀x∈pre.map (opAt ops),swapOk ops x (opAt ops z)=true:=by
    intro x hx
    obtain ⟨x',hx',rfl⟩:=List.mem_map.1 hx
    have:=(List.pairwise_append.1 ab).2.2 x' hx' z (List.mem_cons_self ..)
    simp only[pairOk,Bool.and_eq_true,Bool.or_eq_true] at this
    rcases this.1 with h1 | h1
    ·exact absurd (List.mem_map.2 ⟨x',by rw[he];simp[hx'],rfl⟩) (hro x'.1 h1)
    exact h1
   rw[List.map_append,List.map_cons] at hs'
   have hone:=bubble (zwo hK F') (pre.map (opAt ops)) S u hr.wf hsw hs'
   have hsound:=one_sound (Q:=Q) (zwd (zwo hK F')) hone (Ext.refl _) hr
   rw[he] at hL hro
   have hL':=LeftX.step hL hro
   have hfin:∀a' w',(∃S' B' u'',Rep w0 u0 S' B' a' w' u''∧(false=false→Ext u u'')∧sym P ops w0 u0 false (pre.map (opAt ops)++post.map (opAt ops)) S' u'' (exitsK P ops w0 u0 K F'))→wpAny P .any ops Q (fuel+1+T.length) (listed.setIfInBounds z.1 true) a' w':=by
    rintro a' w' ⟨S',B',u'',g1,_,g3⟩
    refine ih (pre++post) F' _ S' B' a' w' u'' (by rw[List.length_append];exact hfl) hc' ac ?_ hy' hT' g1 ?_
    ·simpa[List.append_assoc] using hL'
    rw[List.map_append];exact g3
   simp only[wpOp,key]
   split
   ·rename_i hw
    rw[if_pos hw] at hsound
    exact .inl (Oper.wp_mono hfin hsound)
   rename_i hw
   rw[if_neg hw] at hsound
   exact hfin _ _ hsound
  rcases List.mem_append.1 hz with hz1 | hz1
  ·rcases List.mem_append.1 hz1 with hzL | hzF
   ·obtain ⟨pre,post,rfl⟩:=List.append_of_mem hzL
    refine front pre post F (by simp[List.append_assoc]) (List.pairwise_append.1 hp).1 ?_ (by simp at hl ⊢;omega) hc (fun x hx=>hy x (by simp at hx ⊢;rcases hx with h | h<;>simp[h])) (fun x hx=>hT x (by simp at hx ⊢;rcases hx with h | h | h<;>simp[h])) hs
    refine hp.sublist ?_
    rw[List.append_assoc,List.append_assoc,List.cons_append]
    exact List.Sublist.append_left (List.sublist_cons_self _ _) _
   cases F with
   | nil=>cases hzF
   | cons p F =>
    have hzp:z=p:=by
     rcases List.mem_cons.1 hzF with h | h
     ·exact h
     rw[List.cons_append] at hc
     simp only[chainB,Bool.and_eq_true,List.all_eq_true] at hc
     exact absurd (List.mem_map.2 ⟨p,by simp,rfl⟩) (hro p.1 (hc.1 z (List.mem_append_left _ h)))
    subst hzp
    have aa:sym P ops w0 u0 false ((L++[z]).map (opAt ops)) S u (exitsK P ops w0 u0 K F):=by
     rw[List.map_append]
     exact sym_app (zwo hK F) _ _ S u (sym_mono_k (fun S u h=>h.2) (zwo hK (z::F)) hs)
    refine front L [] F (by simp[List.append_assoc]) ?_ ?_ (by simp at hl ⊢;omega) ?_ (fun x hx=>hy x (by simpa using hx)) (fun x hx=>hT x (by simp at hx ⊢;rcases hx with h | h<;>simp[h])) (by simpa using aa)
    ·refine hp.sublist ?_
     exact List.Sublist.append_left zv _
    ·refine hp.sublist ?_
     rw[List.append_nil]
     exact List.Sublist.append_left (List.sublist_cons_self _ _) _
    rw[List.cons_append] at hc
    simp only[chainB,Bool.and_eq_true] at hc
    exact hc.2
  rcases List.mem_cons.1 hz1 with rfl | hzT
  ·have ad:L=[]:=by
    cases L with
    | nil=>rfl
    | cons x L=>exact absurd (List.mem_map.2 ⟨x,by simp,rfl⟩) (hro x.1 (hy x (List.mem_cons_self ..)))
   subst ad
   have h9:=hQ F S u (exitsK_now hs) B a w hr
   rw[List.nil_append] at hL hro
   have hL':=LeftX.step hL hro
   have hch:∀a' w',wpList P ops Q ((F++T).map fun x=>ops.getD x.1 default) a' w'→wpAny P .any ops Q (fuel+1+T.length) (listed.setIfInBounds z.1 true) a' w':=fun a' w' h=>by
    have:=any_chain (F++T) (listed.setIfInBounds z.1 true) a' w' (hL'.toLeft hc) hc h
    rw[List.length_append] at this
    rw[show fuel+1+T.length=F.length+T.length from by have h8:F.length=fuel+1:=(by simpa using hl);omega]
    exact this
   rw[List.map_cons] at h9
   unfold wpList at h9
   have h9:if Region.wanted (opAt ops z).1 (yielded ops a.tmps)=true then (opAt ops z).1.wp P a w (wpList P ops Q ((F++T).map fun x=>ops.getD x.1 default)) Q∨((opAt ops z).1.asks P a w∧LetsOut Q) else wpList P ops Q ((F++T).map fun x=>ops.getD x.1 default) (a.put (opAt ops z).1.dst undef) w:=h9
   simp only[wpOp,key]
   split
   ·rename_i hw
    rw[if_pos hw] at h9
    exact h9.imp (Oper.wp_mono fun a w h=>hch a w h) id
   rename_i hw
   rw[if_neg hw] at h9
   exact hch _ _ h9
  exact absurd (List.mem_map.2 ⟨y,by simp,rfl⟩) (hro y.1 (hyT z hzT))
end
section
variable {P:Program} {ops:Array Oper} {w0:Base} {u0:World} {S:St} {u:World}
theorem exitsK_last {K:List (Nat×List Tmp)→St→World→Prop} (h1:K [] S u):exitsK P ops w0 u0 K [] S u:=h1
end
def AnyX (P:Program) (w0:Base) (u0:World) (ops:Array Oper) (listed:Array Bool) (n:Nat) (S:St) (u:World) (Q:MP):Prop :=
 ∀B a w u',Ext u u'→Rep w0 u0 S B a w u'→wpAny P .any ops (fun e a' w'=>∃S' B' u'',Rep w0 u0 S' B' a' w' u''∧Q.f e S' u'') n listed a w
section
variable {P:Program} {ops:Array Oper} {w0:Base} {u0:World} {S:St} {u:World} {Q:MP} {listed:Array Bool}
theorem sw_anyX {id:Nat} (hm:P.follows .mixedOrders=true) (n:Nat) (hn:ops.size=n) (h:AnyX P w0 u0 ops (Array.replicate n false) n S u Q):SW P w0 u0 (.region id ops true) S u Q:=by
 subst hn
 intro B a w u' e hr
 exact wp_region_any hm (h B a _ u' e hr.drew)
theorem takeX (i d n:Nat) (x:SV) (listed':Array Bool) (k:AnyX P w0 u0 ops listed' n (S.set d x) u Q) (hp:∀c S u,¬Q.f (.panic c) S u:=by intro c S u h;exact h) (hl:listed.setIfInBounds i true=listed':=by kernel_rfl)
  (hs:(Region.noSelect ops&&Region.free .any ops listed i&&(Region.ready .any ops listed).contains i&&Nat.blt i ops.size&&(ops.getD i default).dst==some d&&(ops.getD i default).guard.isNone&&x.at?.isNone&&freeB S d&&knownB S (ops.getD i default))=true:=by kernel_rfl) (hk:opK (ops.getD i default).op≠2:=by decide)
  (hrun:∀B w,(execOp (rho S B) (ops.getD i default)).run P w=.ok (.value (x.conc B)) w:=by intro _ _;kernel_rfl):AnyX P w0 u0 ops listed (n+1) S u Q:=by
 intro B a w u' e hr
 simp only[Bool.and_eq_true,beq_iff_eq,Option.isNone_iff_eq_none] at hs
 obtain ⟨⟨⟨⟨⟨⟨⟨⟨h1,h2⟩,h3⟩,h4⟩,h5⟩,h6⟩,h7⟩,h8⟩,h9⟩:=hs
 have hi:ops[i]? = some (ops.getD i default):=get_op (Nat.le_of_ble_eq_true h4)
 subst hl
 refine wpAny_take (v:=x.conc B) hi h1 h2 h3 (fun c a w h=>?_) (.inl ⟨zwf (S:=S) h6 B a hr.regs,fun w=>by rw[exec_rho hr.regs h9 hk];exact hrun B w⟩) ?_
 ·obtain ⟨S',B',u'',_,g⟩:=h
  exact absurd g (hp c S' u'')
 refine k B _ w u' e ?_
 rw[h5]
 exact hr.set (d:=some d) (x:=some x) (v:=x.conc B) (fun s hs=>(zxy h5 h8 s (by rw[h5];exact hs)).1) (fun z e=>by injection e with e;rw[← e]) (fun z t e ht=>by injection e with e;rw[← e,h7] at ht;cases ht)
def leftB (ops:Array Oper) (M:List Nat) (L:List (Nat×List Tmp)) (listed:Array Bool):Bool :=
 nodupB (L.map (·.1))&&backB ops L&&listed.size==ops.size&&(List.range ops.size).all (fun i=>(listed.getD i true==false)==(L.map (·.1)).contains i) &&
  L.all (fun x=>Nat.blt x.1 ops.size && !((ops.getD x.1 default).after.toList.any fun e=>Region.binds .any e&&(e.on==x.1||Nat.ble ops.size e.on))&&(M.getD x.1 0==reachOf M (ops.getD x.1 default))) &&
  (List.range ops.size).all (fun j=>(L.map (·.1)).contains j||(L.map (·.1)).all fun x => !(M.getD j 0).testBit x)
theorem leftB_spec {M:List Nat} {L:List (Nat×List Tmp)} (h:leftB ops M L listed=true):LeftX ops M L listed:=by
 simp only[leftB,Bool.and_eq_true,beq_iff_eq,List.all_eq_true,List.mem_range] at h
 obtain ⟨⟨⟨⟨⟨h1,h2⟩,h3⟩,h4⟩,h5⟩,h6⟩:=h
 refine ⟨nodupB_spec h1,backB_spec h2,h3,fun i hi=>?_,fun x hx=>?_,fun x hx=>(h5 x hx).2,fun j hj hjn x hx hm=>?_⟩
 ·have:=h4 i hi
  constructor
  ·intro h
   rw[h] at this
   exact List.contains_iff_mem.1 (by simpa using this.symm)
  intro h
  rw[List.contains_iff_mem.2 h] at this
  simpa using this
 ·obtain ⟨⟨k1,k2⟩,_⟩:=h5 x hx
  refine ⟨Nat.le_of_ble_eq_true k1,fun e he hb=>?_⟩
  simp only[Bool.not_eq_true',List.any_eq_false] at k2
  have:=k2 e (by simpa using he)
  simp[hb] at this
  exact this
 have:=h6 j hj
 rw[Bool.or_eq_true] at this
 rcases this with h9 | h9
 ·exact hjn (List.contains_iff_mem.1 h9)
 have:=List.all_eq_true.1 h9 x hm
 rw[hx] at this;cases this
theorem restX (M:List Nat) (L F:List (Nat×List Tmp)) (y:Nat×List Tmp) (T:List (Nat×List Tmp)) {n:Nat}
  (hok:(leftB ops M (L++F++y::T) listed&&pairsOk ops M (L++F)&&chainB M (F++T)&&L.all (fun x=>(M.getD y.1 0).testBit x.1)&&(L++F).all (fun x=>T.all fun t=>(M.getD t.1 0).testBit x.1)&&T.all (fun t=>(M.getD t.1 0).testBit y.1)&&Nat.beq n ((L.length+F.length)+1+T.length))=true)
  (h:sym P ops w0 u0 false (L.map (opAt ops)) S u (exitsK P ops w0 u0 (fun F S' u'=>sym P ops w0 u0 true ((y::(F++T)).map fun x=>(ops.getD x.1 default,[])) S' u' (Q.f .normal)) F)):AnyX P w0 u0 ops listed n S u Q:=by
 intro B a w u' e hr
 simp only[Bool.and_eq_true,List.all_eq_true] at hok
 obtain ⟨⟨⟨⟨⟨⟨g0,g1⟩,g2⟩,g3⟩,g4⟩,g5⟩,g6⟩:=hok
 have hK:∀F,Mono (fun S' u'=>sym P ops w0 u0 true ((y::(F++T)).map fun x=>(ops.getD x.1 default,([]:List Tmp))) S' u' (Q.f .normal)):=fun F=>zwd (Q.mono _)
 rw[Nat.eq_of_beq_eq_true g6]
 refine any_symE hK (fun F S u'' h B a w hr=>?_) g5 (L.length+F.length) L F _ S B a _ u' rfl g2 (pairsOk_spec g1) (leftB_spec g0) g3 (fun x hx=>g4 x hx) hr (zwd (zwo hK F) _ _ _ e h)
 have:=sl_key (Q:=fun e a' w'=>∃S' B' u'',Rep w0 u0 S' B' a' w' u''∧Q.f e S' u'') (K:=Q.f .normal) (Q.mono _) [] (fun S u h B a w hr=>by exact ⟨S,B,u,hr,h⟩) ((y::(F++T)).map fun x=>ops.getD x.1 default) S B a w u'' hr (by rw[List.map_map];exact h)
 rw[List.append_nil] at this
 exact this
end
def Rows (k:Nat) (L:List (List Int)):Prop:=∀p∈L,p.length=k
def kcs (L:List (List Int)):List Value:=L.flatMap ics
def gi (L:List (List Int)) (i j:Nat):Int:=(L.getD i []).getD j 0
section
variable {u u':World} {L M:List (List Int)} {p:List Int} {k n i j c b off:Nat} {x:Sl} {X:List Value} {a1 a2 a3 a4 a5:Int}
theorem kcs_cons:kcs (p::L)=ics p++kcs L:=rfl
theorem kcs_app:kcs (L++M)=kcs L++kcs M:=by simp[kcs]
theorem Rows.tail (h:Rows k (p::L)):Rows k L:=fun q hq=>h q (List.mem_cons_of_mem _ hq)
theorem Rows.head (h:Rows k (p::L)):p.length=k:=h p (List.mem_cons_self ..)
theorem kcs_len (h:Rows k L):(kcs L).length=L.length*k:=by
 induction L with
 | nil=>simp[kcs]
 | cons p L ih=>rw[kcs_cons,List.length_append,ih h.tail,zwi,h.head,List.length_cons,Nat.succ_mul,Nat.add_comm]
theorem Rows.get (h:Rows k L) (hi:i<L.length):(L.getD i []).length=k:=by
 rw[qyg,List.getElem?_eq_getElem hi]
 exact h _ (List.getElem_mem hi)
theorem Rows.drop (h:Rows k L):Rows k (L.drop n):=fun q hq=>h q (List.mem_of_mem_drop hq)
theorem rows_rep (n:Nat) (hp:p.length=k):Rows k (List.replicate n p):=fun q hq=>by rw[(List.mem_replicate.1 hq).2];exact hp
theorem kcs_drop (h:Rows k L):(kcs L).drop (n*k)=kcs (L.drop n):=by
 induction n generalizing L with
 | zero=>simp
 | succ n ih =>
  cases L with
  | nil=>simp[kcs]
  | cons p L=>rw[kcs_cons,show (n+1)*k=(ics p).length+n*k by rw[zwi,h.head,Nat.succ_mul,Nat.add_comm],List.drop_append,Nat.add_sub_cancel_left,ih h.tail,List.drop_of_length_le xq];simp
theorem kcs_take (h:Rows k L):(kcs L).take (n*k)=kcs (L.take n):=by
 induction n generalizing L with
 | zero=>simp[kcs]
 | succ n ih =>
  cases L with
  | nil=>simp[kcs]
  | cons p L=>rw[kcs_cons,show (n+1)*k=(ics p).length+n*k by rw[zwi,h.head,Nat.succ_mul,Nat.add_comm],List.take_append,Nat.add_sub_cancel_left,ih h.tail,List.take_of_length_le xq];rfl
theorem kcs_get (h:Rows k L) (hi:i<L.length):((kcs L).drop (i*k)).take k=ics (L.getD i []):=by
 have hg:=h.get hi
 rw[kcs_drop h,List.drop_eq_getElem_cons hi,kcs_cons]
 have e:L[i]=L.getD i []:=by rw[qyg,List.getElem?_eq_getElem hi];rfl
 rw[e,List.take_append_of_le_length (by rw[zwi];omega),List.take_of_length_le (by rw[zwi];omega)]
theorem ics_one:∀v∈ics p,v.oneCell'=true:=fun v hv=>by
 unfold ics at hv
 obtain ⟨z,_,rfl⟩:=List.mem_map.1 hv;rfl
theorem kcs_one:∀v∈kcs L,v.oneCell'=true:=fun v hv=>by
 obtain ⟨p,_,hp⟩:=List.mem_flatMap.1 hv
 exact ics_one v hp
theorem part_k (h:Rows k L) (hi:i<L.length) {off:Nat} (ho:off=i*k):PartIs (kcs L++X) off true k (.v (.agg (ics (L.getD i [])).toArray)):=by
 subst ho
 have hl:=kcs_len h
 have:(i+1)*k≤L.length*k:=Nat.mul_le_mul_right _ hi
 rw[Nat.succ_mul] at this
 refine ⟨by rw[List.length_append,hl];omega,?_⟩
 rw[← kcs_get h hi,List.drop_append_of_le_length xq,List.take_append_of_le_length (by rw[List.length_drop];omega)]
theorem row_eq2 (h:p.length=2):p=[p.getD 0 0,p.getD 1 0]:=by
 match p,h with
 | [a,b],_=>rfl
theorem row_eq3 (h:p.length=3):p=[p.getD 0 0,p.getD 1 0,p.getD 2 0]:=by
 match p,h with
 | [a,b,c],_=>rfl
theorem row_eq5 (h:p.length=5):p=[p.getD 0 0,p.getD 1 0,p.getD 2 0,p.getD 3 0,p.getD 4 0]:=by
 match p,h with
 | [a,b,c,d,e],_=>rfl
theorem ics2 (h:Rows 2 L) (hi:i<L.length):ics (L.getD i [])=[.int .i64 (gi L i 0),.int .i64 (gi L i 1)]:=by rw[row_eq2 (h.get hi)];rfl
theorem ics3 (h:Rows 3 L) (hi:i<L.length):ics (L.getD i [])=[.int .i64 (gi L i 0),.int .i64 (gi L i 1),.int .i64 (gi L i 2)]:=by rw[row_eq3 (h.get hi)];rfl
theorem ics5 (h:Rows 5 L) (hi:i<L.length):ics (L.getD i [])=[.int .i64 (gi L i 0),.int .i64 (gi L i 1),.int .i64 (gi L i 2),.int .i64 (gi L i 3),.int .i64 (gi L i 4)]:=by rw[row_eq5 (h.get hi)];rfl
theorem part_k2 (h:Rows 2 L) (hi:i<L.length) {off:Nat} (ho:off=i*2):PartIs (kcs L++X) off true 2 (.v (.agg #[.int .i64 (gi L i 0),.int .i64 (gi L i 1)])):=by
 have:=part_k (X:=X) h hi ho
 rw[ics2 h hi] at this;exact this
theorem part_k3 (h:Rows 3 L) (hi:i<L.length) {off:Nat} (ho:off=i*3):PartIs (kcs L++X) off true 3 (.v (.agg #[.int .i64 (gi L i 0),.int .i64 (gi L i 1),.int .i64 (gi L i 2)])):=by
 have:=part_k (X:=X) h hi ho
 rw[ics3 h hi] at this;exact this
theorem setL_k (h:Rows k L) (hp:p.length=k) (hi:i<L.length) {off:Nat} (ho:off=i*k):setL (kcs L++X) off (ics p)=kcs (L.set i p)++X:=by
 subst ho
 have hl:=kcs_len h
 have:(i+1)*k≤L.length*k:=Nat.mul_le_mul_right _ hi
 have e:i*k+(ics p).length=(i+1)*k:=by rw[zwi,hp,Nat.succ_mul]
 rw[Nat.succ_mul] at this
 unfold setL
 rw[e,List.take_append_of_le_length xq,List.drop_append_of_le_length (by rw[Nat.succ_mul];omega),kcs_take h,kcs_drop h,List.set_eq_take_append_cons_drop,if_pos hi,kcs_app,kcs_cons]
 simp
theorem setL_k2 (h:Rows 2 L) (hi:i<L.length) {off:Nat} (ho:off=i*2):setL (kcs L++X) off (Value.agg #[.int .i64 a1,.int .i64 a2]).cells.toList=kcs (L.set i [a1,a2])++X:=setL_k (p:=[a1,a2]) h rfl hi ho
theorem setL_k5 (h:Rows 5 L) (hi:i<L.length) {off:Nat} (ho:off=i*5):setL (kcs L++X) off (Value.agg #[.int .i64 a1,.int .i64 a2,.int .i64 a3,.int .i64 a4,.int .i64 a5]).cells.toList=kcs (L.set i [a1,a2,a3,a4,a5])++X:=setL_k (p:=[a1,a2,a3,a4,a5]) h rfl hi ho
def IrV (k:Nat) (u:World) (x:Sl) (L:List (List Int)):Prop :=
 Rows k L∧x.n=L.length∧x.n≤x.c∧x.c≤maxLen∧(0<x.n→∃b o,x.a=some ⟨b,o,none⟩∧b<u.heap.size∧∀j,j<L.length*k→u.cell? ⟨b,o+j,none⟩=(kcs L)[j]?)
theorem IrV.ext (h:IrV k u x L) (e:Ext u u'):IrV k u' x L:=by
 obtain ⟨h0,h1,h2,h3,h4⟩:=h
 refine ⟨h0,h1,h2,h3,fun hp=>?_⟩
 obtain ⟨b,o,g1,g2,g3⟩:=h4 hp
 refine ⟨b,o,g1,Nat.lt_of_lt_of_le g2 e.size,fun j hj=>?_⟩
 have hk:=g3 j hj
 have hj':j<(kcs L).length:=by rw[kcs_len h0];exact hj
 rw[List.getElem?_eq_getElem hj'] at hk ⊢
 exact e.cell hk
theorem IrV.rows (h:IrV k u x L):Rows k L:=h.1
theorem IrV.len (h:IrV k u x L):x.n=L.length:=h.2.1
theorem ir_at (h:IrV k u x L) (hi:i<L.length):∃b o,x.a=some ⟨b,o,none⟩∧b<u.heap.size∧∀j,j<(ics (L.getD i [])).length→u.cell? ⟨b,o+i*k+j,none⟩=(ics (L.getD i []))[j]? := by
 obtain ⟨h0,h1,h2,h3,h4⟩:=h
 obtain ⟨b,o,g1,g2,g3⟩:=h4 xq
 refine ⟨b,o,g1,g2,fun j hj=>?_⟩
 rw[zwi,h0.get hi] at hj
 have:(i+1)*k≤L.length*k:=Nat.mul_le_mul_right _ hi
 rw[Nat.succ_mul] at this
 rw[Nat.add_assoc,g3 (i*k+j) xq,← kcs_get h0 hi,List.getElem?_take_of_lt hj,List.getElem?_drop]
theorem ir_at5 (h:IrV 5 u x L) (hi:i<L.length):∃b o,x.a=some ⟨b,o,none⟩∧∀j,j<[Value.int .i64 (gi L i 0),.int .i64 (gi L i 1),.int .i64 (gi L i 2),.int .i64 (gi L i 3),.int .i64 (gi L i 4)].length→u.cell? ⟨b,o+i*5+j,none⟩=[Value.int .i64 (gi L i 0),.int .i64 (gi L i 1),.int .i64 (gi L i 2),.int .i64 (gi L i 3),.int .i64 (gi L i 4)][j]? := by
 obtain ⟨b,o,h1,h2,h3⟩:=ir_at h hi
 rw[ics5 h.rows hi] at h3
 exact ⟨b,o,h1,h3⟩
theorem ir_row (h:IrV k u x L) (hi:i<L.length) (hk:k≤maxLen):∃b o,x.a=some ⟨b,o,none⟩∧SlR .i64 u (some ⟨b,o+i*k,none⟩) k k (L.getD i []):=by
 obtain ⟨b,o,h1,h2,h3⟩:=ir_at h hi
 have hg:=h.rows.get hi
 refine ⟨b,o,h1,hg,Nat.le_refl _,hk,fun hp=>⟨b,o+i*k,rfl,h2,fun j hj=>?_⟩⟩
 rw[h3 j (by rw[zwi];omega),ics_at xq]
 rw[qyg]
theorem ir_data {cs:List Value} {t:TypeId} (h:u.heap[b]? = some (.cells cs.toArray t (0,0))) (hR:Rows k L) (hc:cs.take (n*k)=kcs L) (hn:n=L.length) (hl:cs.length=c*k) (hnc:n≤c) (hm:c≤maxLen):IrV k u ⟨some ⟨b,0,none⟩,n,c⟩ L:=by
 refine ⟨hR,hn,hnc,hm,fun _=>⟨b,0,rfl,zxa h,fun j hj=>?_⟩⟩
 rw[Nat.zero_add,cells_at h,← hc,List.getElem?_take_of_lt (by rw[hn];exact hj)];simp
theorem made_k {z:List Int} (hz:z.length=k) (hk:0<k) (n:Nat):(madeCells (ics z).toArray (n*k)).toList=kcs (List.replicate n z):=by
 apply List.ext_getElem?
 intro j
 have hl:=kcs_len (rows_rep (k:=k) n hz)
 rw[List.length_replicate] at hl
 by_cases hj:j<n*k
 ·have hq:j / k<n:=Nat.div_lt_of_lt_mul (by rw[Nat.mul_comm];exact hj)
  have hr:=Nat.mod_lt j hk
  have hg:=kcs_get (rows_rep (k:=k) n hz) (i:=j / k) (by simpa using hq)
  have e1:(kcs (List.replicate n z))[j]? = (((kcs (List.replicate n z)).drop (j / k*k)).take k)[j%k]? := by
   rw[List.getElem?_take_of_lt hr,List.getElem?_drop]
   congr 1
   have:=Nat.div_add_mod j k
   rw[Nat.mul_comm] at this;omega
  rw[e1,hg,qyg,List.getElem?_replicate,if_pos hq]
  unfold madeCells
  have hzl:(ics z).length=k:=by rw[zwi,hz]
  simp[hj,hzl]
  rw[List.getElem?_eq_getElem (by rw[hzl];exact hr)]
  simp
 rw[List.getElem?_eq_none (by unfold madeCells;simp;omega),List.getElem?_eq_none xq]
end
section
variable {P:Program} {ops:Array Oper} {w0:Base} {u0:World} {S:St} {u:World} {o:Oper} {p:List Tmp} {seq:Bool} {rest:List (Oper×List Tmp)} {K:St→World→Prop}
theorem sy_subO3 (d:Tmp) {T:TypeId} {r t:Tmp} {g h q:Operand} {off n c:Nat} {k1 k2 k3:IntKind} {i1 i2 i3:Int} (lo hi mx:Nat) {sz:Nat} (hT:SlIs P T sz) (e1:i1=lo) (e2:i2=hi) (e3:i3=mx) (h1:lo≤hi) (h2:hi≤mx) (h3:mx≤c)
  (kk:∀off',off'=(if mx=lo then off else off+lo*sz)→sym P ops w0 u0 seq rest (S.set d (.slc t off' (hi - lo) (mx - lo))) u K) (hw:Wants ops o S:=by exact zwf xj) (hd:o.dst=some d:=by kernel_rfl) (hop:o.op=.slice T (.tmp r) (some g) (some h) (some q):=by rfl) (hf:freeB S d=true:=by kernel_rfl)
  (hx:S.reg r=some (.slc t off n c):=by rfl) (hg:evO S g=some (.v (.int k1 i1)):=by rfl) (hh:evO S h=some (.v (.int k2 i2)):=by rfl) (hq:evO S q=some (.v (.int k3 i3)):=by rfl):sym P ops w0 u0 seq ((o,p)::rest) S u K:=by
 subst e1 e2 e3
 have kk:=kk _ rfl
 obtain ⟨E,agg,hu,hE⟩:=hT
 have hl:r∈o.looksAt ops:=List.mem_append_left _ (List.mem_filterMap.2 ⟨.tmp r,by rw[hop];simp[Op.operands],rfl⟩)
 refine .inl ⟨by rw[hop];exact (by decide:(0:Nat)≠2),.set (.slc t (if mx=lo then off else off+lo*sz) (hi - lo) (mx - lo)),⟨zxy hd hf,.inl ⟨(fun s hs=>⟨r,hl,_,hx,hs⟩),fun B a w u' hr he hdt=>⟨hw B a hr,?_⟩⟩⟩,?_⟩
 ·have e1:(execOp a.eval o).run P w=(do pure (Next.value (← Instr.sliceAt T (a.eval (.tmp r)) (some (a.eval g)) (some (a.eval h)) (some (a.eval q)))):Sem Next).run P w:=by unfold execOp;rw[hop];rfl
  rw[e1,hr.eval hx,ev_eval hr hg,ev_eval hr hh,ev_eval hr hq]
  refine run_val ?_
  show (Instr.sliceAt T (.slice (some ⟨B t,off,none⟩) n c) (some (.int k1 lo)) (some (.int k2 hi)) (some (.int k3 mx))).run P w=.ok (.slice (some ⟨B t,if mx=lo then off else off+lo*sz,none⟩) (hi - lo) (mx - lo)) w
  have hs:=(hE w).2
  by_cases e:mx=lo
  ·simp[Instr.sliceAt,Instr.slice,Instr.sliceBounds,Instr.sliceBound,asIntOf,run_underlying hu,go_sem,hs,e]
   have:hi=lo:=by omega
   subst this
   simp;omega
  simp[Instr.sliceAt,Instr.slice,Instr.sliceBounds,Instr.sliceBound,asIntOf,run_underlying hu,go_sem,hs,e,h1,h2,h3,Addr.add]
 show sym P ops w0 u0 seq rest (S.put o.dst (some _)) u K
 rw[hd];exact kk
theorem sy_tailO (d:Tmp) {T:TypeId} {r t:Tmp} {g:Operand} {off n c:Nat} {k1:IntKind} {i1:Int} (lo:Nat) {sz:Nat} (hT:SlIs P T sz) (e1:i1=lo) (h1:lo≤n) (h2:n≤c)
  (kk:∀off',off'=(if c=lo then off else off+lo*sz)→sym P ops w0 u0 seq rest (S.set d (.slc t off' (n - lo) (c - lo))) u K) (hw:Wants ops o S:=by exact zwf xj) (hd:o.dst=some d:=by kernel_rfl) (hop:o.op=.slice T (.tmp r) (some g) none none:=by rfl) (hf:freeB S d=true:=by kernel_rfl)
  (hx:S.reg r=some (.slc t off n c):=by rfl) (hg:evO S g=some (.v (.int k1 i1)):=by rfl):sym P ops w0 u0 seq ((o,p)::rest) S u K:=by
 subst e1
 have kk:=kk _ rfl
 obtain ⟨E,agg,hu,hE⟩:=hT
 have hl:r∈o.looksAt ops:=List.mem_append_left _ (List.mem_filterMap.2 ⟨.tmp r,by rw[hop];simp[Op.operands],rfl⟩)
 refine .inl ⟨by rw[hop];exact (by decide:(0:Nat)≠2),.set (.slc t (if c=lo then off else off+lo*sz) (n - lo) (c - lo)),⟨zxy hd hf,.inl ⟨(fun s hs=>⟨r,hl,_,hx,hs⟩),fun B a w u' hr he hdt=>⟨hw B a hr,?_⟩⟩⟩,?_⟩
 ·have e1:(execOp a.eval o).run P w=(do pure (Next.value (← Instr.sliceAt T (a.eval (.tmp r)) (some (a.eval g)) none none)):Sem Next).run P w:=by unfold execOp;rw[hop];rfl
  rw[e1,hr.eval hx,ev_eval hr hg]
  refine run_val ?_
  show (Instr.sliceAt T (.slice (some ⟨B t,off,none⟩) n c) (some (.int k1 lo)) none none).run P w=.ok (.slice (some ⟨B t,if c=lo then off else off+lo*sz,none⟩) (n - lo) (c - lo)) w
  have hs:=(hE w).2
  by_cases e:c=lo
  ·simp[Instr.sliceAt,Instr.slice,Instr.sliceBounds,Instr.sliceBound,asIntOf,run_underlying hu,go_sem,hs,e,h1]
  simp[Instr.sliceAt,Instr.slice,Instr.sliceBounds,Instr.sliceBound,asIntOf,run_underlying hu,go_sem,hs,e,h1,Addr.add]
 show sym P ops w0 u0 seq rest (S.put o.dst (some _)) u K
 rw[hd];exact kk
theorem sy_subO2 (d:Tmp) {T:TypeId} {r t:Tmp} {g h:Operand} {off n c:Nat} {k1 k2:IntKind} {i1 i2:Int} (lo hi:Nat) {sz:Nat} (hT:SlIs P T sz) (e1:i1=lo) (e2:i2=hi) (h1:lo≤hi) (h2:hi≤c)
  (kk:∀off',off'=(if c=lo then off else off+lo*sz)→sym P ops w0 u0 seq rest (S.set d (.slc t off' (hi - lo) (c - lo))) u K) (hw:Wants ops o S:=by exact zwf xj) (hd:o.dst=some d:=by kernel_rfl) (hop:o.op=.slice T (.tmp r) (some g) (some h) none:=by rfl) (hf:freeB S d=true:=by kernel_rfl)
  (hx:S.reg r=some (.slc t off n c):=by rfl) (hg:evO S g=some (.v (.int k1 i1)):=by rfl) (hh:evO S h=some (.v (.int k2 i2)):=by rfl):sym P ops w0 u0 seq ((o,p)::rest) S u K:=by
 subst e1 e2
 have kk:=kk _ rfl
 obtain ⟨E,agg,hu,hE⟩:=hT
 have hl:r∈o.looksAt ops:=List.mem_append_left _ (List.mem_filterMap.2 ⟨.tmp r,by rw[hop];simp[Op.operands],rfl⟩)
 refine .inl ⟨by rw[hop];exact (by decide:(0:Nat)≠2),.set (.slc t (if c=lo then off else off+lo*sz) (hi - lo) (c - lo)),⟨zxy hd hf,.inl ⟨(fun s hs=>⟨r,hl,_,hx,hs⟩),fun B a w u' hr he hdt=>⟨hw B a hr,?_⟩⟩⟩,?_⟩
 ·have e1:(execOp a.eval o).run P w=(do pure (Next.value (← Instr.sliceAt T (a.eval (.tmp r)) (some (a.eval g)) (some (a.eval h)) none)):Sem Next).run P w:=by unfold execOp;rw[hop];rfl
  rw[e1,hr.eval hx,ev_eval hr hg,ev_eval hr hh]
  refine run_val ?_
  show (Instr.sliceAt T (.slice (some ⟨B t,off,none⟩) n c) (some (.int k1 lo)) (some (.int k2 hi)) none).run P w=.ok (.slice (some ⟨B t,if c=lo then off else off+lo*sz,none⟩) (hi - lo) (c - lo)) w
  have hs:=(hE w).2
  by_cases e:c=lo
  ·subst e
   have:hi=c:=by omega
   subst this
   simp[Instr.sliceAt,Instr.slice,Instr.sliceBounds,Instr.sliceBound,asIntOf,run_underlying hu,go_sem,hs]
  simp[Instr.sliceAt,Instr.slice,Instr.sliceBounds,Instr.sliceBound,asIntOf,run_underlying hu,go_sem,hs,e,h1,h2,Addr.add]
 show sym P ops w0 u0 seq rest (S.put o.dst (some _)) u K
 rw[hd];exact kk
theorem sy_appT (d:Tmp) {T E:TypeId} {s x:Operand} {z:Value} {size bytes:Nat} {off m c t n cap:Nat} {cs0:List Value} (hT:P.underlying T=some (.slice E)) (hi:(P.info? E).map (fun i=>(i.zero,i.size,i.bytes))=some (some z,size,bytes))
  (hcl:cs0.length=cap*size) (hoff:off+m*size≤cs0.length) (hnm:n+m≤cap) {ns:List Value} (hns:(cs0.drop off).take (m*size)=ns) (h1:∀v∈ns,v.oneCell'=true)
  (k:sym P ops w0 u0 seq rest ((S.setVar t ⟨E,setL cs0 (n*size) ns⟩).set d (.slc t 0 (n+m) cap)) u K)
  (hw:Wants ops o S:=by exact zwf xj) (hd:o.dst=some d:=by kernel_rfl) (hop:o.op=.call { callee:=.builtin .append,args:=#[s,x],argTypes:=#[T,T] }:=by rfl) (hf:freeB S d=true:=by kernel_rfl)
  (hs:evO S s=some (.slc t 0 n cap):=by rfl) (hv:S.var t=some ⟨E,cs0⟩:=by rfl) (hx:evO S x=some (.slc t off m c):=by rfl):sym P ops w0 u0 seq ((o,p)::rest) S u K:=by
 subst hns
 obtain ⟨inf,aa,hz,hsz,hby⟩:=info_parts hi
 refine .inr (.inr (.inl ⟨.inr ⟨by rw[hop];rfl,by rw[hop];rfl⟩,fun B a w u' he hrep=>⟨hw B a hrep.regs,?_⟩⟩))
 obtain ⟨v1,v2,v3⟩:=hrep.var t _ hv
 have hnl:n*size+((cs0.drop off).take (m*size)).length≤cs0.length:=by
  rw[List.length_take,List.length_drop,hcl]
  have:(n+m)*size≤cap*size:=Nat.mul_le_mul_right _ hnm
  rw[Nat.add_mul] at this
  omega
 obtain ⟨w',k1,k2,k3⟩:=run_storeCells (P:=P) (b:=B t) (ty:=E) (base:=n*size) ((cs0.drop off).take (m*size)) 0 w cs0 v1 (by simpa using hnl) h1
 rw[Nat.add_zero] at k2
 have hld:(loadCells ⟨B t,off,none⟩ (m*size)).run P w=.ok ((cs0.drop off).take (m*size)).toArray w:=by
  have:=run_loadCells (P:=P) (w:=w) (b:=B t) (l:=(cs0.drop off).take (m*size)) (m*size) off #[] 0 (fun j hj=>by
   rw[Nat.add_zero,cells_at v1,List.getElem?_take_of_lt xq,List.getElem?_drop];simp) (by rw[List.length_take,List.length_drop];omega)
  unfold loadCells
  rw[this]
  simp[List.take_take]
 have hrun:(Builtin.append_ #[T,T] o.type #[.slice (some ⟨B t,0,none⟩) n cap,.slice (some ⟨B t,off,none⟩) m c]).run P w=.ok (.slice (some ⟨B t,0,none⟩) (n+m) cap) w':=by
  have ha:(⟨B t,0,none⟩:Addr).add (n*size)=⟨B t,n*size,none⟩:=by
   simp only[Addr.add,Nat.zero_add];split
   ·rename_i h;rw[h]
   rfl
  simp[Builtin.append_,run_underlying hT,sizeOf,typeInfo,aa,hsz,hnm,Builtin.lenOf,Builtin.firstCells,hld,ha,k1]
 unfold Oper.wp execOp
 simp only[hop,resolve,invoke,builtin,Sem.run_bind,Sem.run_pure,Result.andThen_ok,List.map_toArray,List.map_cons,List.map_nil,ev_of hrep.regs hs,ev_of hrep.regs hx,SV.conc,hrun]
 have hr1:=hrep.store (V':=⟨E,setL cs0 (n*size) ((cs0.drop off).take (m*size))⟩) hv k2 k3
 have hr2:=hr1.set (d:=o.dst) (x:=some (.slc t 0 (n+m) cap)) (v:=.slice (some ⟨B t,0,none⟩) (n+m) cap) (fun s hs=>(zxy hd hf s hs).1) (fun z e=>by injection e with e;rw[← e];rfl) (fun z t' e ht=>by injection e with e;rw[← e] at ht;injection ht with ht;subst ht;exact ⟨_,zxc _ _ _⟩)
 show ∃S' B' u'' u2,Rep w0 u0 S' B' (a.put o.dst _) w' u''∧_
 refine ⟨_,B,u',u,hr2,fun _=>Ext.refl _,fun _=>Ext.refl _,he,?_⟩
 rw[hd];exact k
theorem sy_clear1 {T E:TypeId} {x:Operand} {z:Value} {size bytes:Nat} {off m c t:Nat} {cs0 zs:List Value} (hT:P.underlying T=some (.slice E)) (hi:(P.info? E).map (fun i=>(i.zero,i.size,i.bytes))=some (some z,size,bytes)) (hm:m=1) (hzs:(Builtin.zeroCells z.cells 1).toList=zs) (hoff:off+zs.length≤cs0.length) (h1:∀v∈zs,v.oneCell'=true)
  (k:sym P ops w0 u0 true rest (S.setVar t ⟨E,setL cs0 off zs⟩) u K)
  (hw:Wants ops o S:=by exact zwf xj) (hd:o.dst=none:=by kernel_rfl) (hop:o.op=.call { callee:=.builtin .clear,args:=#[x],argTypes:=#[T] }:=by rfl)
  (hv:S.var t=some ⟨E,cs0⟩:=by rfl) (hx:evO S x=some (.slc t off m c):=by rfl):sym P ops w0 u0 true ((o,p)::rest) S u K:=by
 subst hm
 obtain ⟨inf,hi1,hz,hsz,hby⟩:=info_parts hi
 refine .inr (.inr (.inl ⟨.inl rfl,fun B a w u' he hrep=>⟨hw B a hrep.regs,?_⟩⟩))
 obtain ⟨v1,v2,v3⟩:=hrep.var t _ hv
 obtain ⟨w',k1,k2,k3⟩:=run_storeCells (P:=P) (b:=B t) (ty:=E) (base:=off) zs 0 w cs0 v1 (by simpa using hoff) h1
 rw[Nat.add_zero] at k2
 have hrun:(Builtin.clear_ #[T] o.type #[.slice (some ⟨B t,off,none⟩) 1 c]).run P w=.ok (.tuple #[]) w':=by
  simp[Builtin.clear_,run_underlying hT,zeroValue,typeInfo,hi1,hz,hzs,k1]
 unfold Oper.wp execOp
 simp only[hop,resolve,invoke,builtin,Sem.run_bind,Sem.run_pure,Result.andThen_ok,List.map_toArray,List.map_cons,List.map_nil,ev_of hrep.regs hx,SV.conc,hrun]
 have hr1:=hrep.store (V':=⟨E,setL cs0 off zs⟩) hv k2 k3
 show ∃S' B' u'' u2,Rep w0 u0 S' B' (a.put o.dst _) w' u''∧_
 rw[hd]
 exact ⟨_,B,u',u,hr1,(fun h=>by cases h),(fun h=>by cases h),he,k⟩
end
theorem k_csButter0 {u w:World} {re r:RL} (d:Dat u w):qyc 7 #[.int .i64 0,re.v,r.v,.int .i64 40] w (Post u w fun v _=>v=.tuple #[qyn,.int .i64 12]):=by
 refine zzm Tryz.func7 rfl Tryz.ntmps7 Tryz.results7 d ?_
 refine sq9 (zzk 5 ⟨28,re.cs⟩ (zzk 6 ⟨28,r.cs⟩ (zza 8 (.v (qyn)) (zza 9 (zI 0) (zzb (zzd (sq9 (zza 27 (zI 0) (zzi 28 (.v (re.v)) ty28 zze (zzi 29 (.v (r.v)) ty28 zze (zzg 30 22 _ fun _ _ _ aa=>qym (k_ptButter0 (re:=re) (r:=r) aa) ?_)))))))))))
 rintro _ u12 g13 rfl
 refine zza 26 (.v (.tuple #[.agg #[.bool false,qyn,qyn,qyn,.int .i64 0,qyn],.int .i64 12])) (zza 31 (.v (.agg #[.bool false,qyn,qyn,qyn,.int .i64 0,qyn])) (zza 32 (zI 12) (zzk 10 ⟨39,[.bool false,qyn,qyn,qyn,.int .i64 0,qyn]⟩ (zzj ⟨39,[.bool false,qyn,qyn,qyn,.int .i64 0,qyn]⟩ ty39 ?_))))
 refine zza 11 (zI 12) (zzb (sq9 (zza 33 (zI 12) (zza 34 (zB true) (zzb (zyr xj (sq9 (zza 35 (zI 12) (zza 8 (.v (qyn)) (zza 9 (zI 12) (zzb ?_)))))))))))
 refine zzo (zzw (ret0 [qyn,.int .i64 12] ⟨zzq,zzq,trivial⟩ fun u15 e16=>?_))
 rfl
theorem two_one (x y:Sl):∀v∈[x.v,y.v],v.oneCell'=true:=fun v hv=>by
 rcases List.mem_cons.1 hv with rfl | hv
 ·rfl
 rw[List.mem_singleton.1 hv];rfl
theorem Nt.trim_bp:trimQ Nt.bp=Nt.bp:=pm_trim (z:=1) yq
theorem Nt.sg_ne {x:Rat} (h:0<x):(sgQ x==(0:Int))=false:=by rw[sgQ_eq];exact decide_eq_false (by grind)
theorem Nt.bw_pos {q c:Rat} {n:Nat} (h1:1≤n) (h8:n≤8) (hq:1 / 4≤q) (hc:0<c):0<c*(Nt.gr 40 (rtN q n 40:Int)):=Rat.mul_pos hc (root_near h1 h8 hq).2.2
theorem k_csButter {u w:World} {re r:RL} {e q:Rat} {K n:Nat} (d:Dat u w) (he:RatV u re e K) (hr:RatV u r q K) (he0:((-1:Int):Rat)<e) (he1:e<((1:Int):Rat)) (hq:0<q) (hK:K≤20) (h1:1≤n) (h8:n≤8) (hq4:1 / 4≤q):qyc 7 #[.int .i64 (n:Int),re.v,r.v,.int .i64 40] w (Post u w fun v u'=>∃ (x:Sl) (Ss:List Rt),v=.tuple #[x.v,.int .i64 0]∧MutS 2 45 u.heap.size u' x (rvs Ss)∧RtN u' Ss (bwSs n (((((1:Int):Rat)+e) / (((1:Int):Rat) - e))*(Nt.gr 40 (rtN q n 40:Int)))) 150000):=by
 refine zzm Tryz.func7 rfl Tryz.ntmps7 Tryz.results7 d ?_
 refine sq9 (zzk 5 ⟨28,re.cs⟩ (zzk 6 ⟨28,r.cs⟩ (zza 8 (.v (qyn)) (zza 9 (zI 0) (zzb (zzd (sq9 (zza 27 (zI n) (zzi 28 (.v (re.v)) ty28 zze (zzi 29 (.v (r.v)) ty28 zze (zzg 30 22 _ fun _ _ br c5=>qym (k_ptButter (n:=n) c5 (he.ext br) (hr.ext br) he0 he1 hq xq h1 h8) ?_)))))))))))
 rintro _ u15 cf ⟨bi,cG,ci,rfl⟩
 refine zza 26 (.v (.tuple #[.agg #[.bool bi.s,bi.m.v,bi.d.v,cG.v,.int .i64 n,ci.v],.int .i64 0])) (zza 31 (.v (.agg #[.bool bi.s,bi.m.v,bi.d.v,cG.v,.int .i64 n,ci.v])) (zza 32 (zI 0) (zzk 10 ⟨39,[.bool false,qyn,qyn,qyn,.int .i64 0,qyn]⟩ (zzj ⟨39,bi.cs++[cG.v,.int .i64 n,ci.v]⟩ ty39 ?_))))
 refine zza 11 (zI 0) (zzb (sq9 (zza 33 (zI 0) (zza 34 (zB false) (zzb (zys xj (zzs (zzp ?_))))))))
 refine zzd (sq9 (zza 36 (zI 40) (zza 37 (zB false) (zza 38 (zB false) (zza 39 (zI 40) ?_ (hw:=w1 2 false 38))))))
 refine zza 40 (zB false) ?_ (hw:=w1 2 false 38)
 refine zza 41 (zB false) (zzb (zys xj (zzs (zzp ?_))))
 refine sq9 (zzg 42 23 _ fun _ _ ce dh=>qym (k_ratOf dh (z:=1) xq xq) ?_)
 rintro _ u21 cc ⟨aJ,rfl,bZ⟩
 refine zzk 12 ⟨28,zw3⟩ (zzj ⟨28,aJ.cs⟩ ty28 ?_)
 refine zzb (zzd (zzz [0,0,3,0,0,31,63,127,255,255,0,1535,4095] [(0,[]),(1,[]),(3,[]),(4,[]),(10,[]),(2,[]),(5,[]),(6,[]),(7,[]),(8,[]),(9,[]),(11,[]),(12,[])] xj xj (zzi 44 (.v (aJ.v)) ty28 zze (zzi 45 (.v (re.v)) ty28 zze (zzi 47 (.v (aJ.v)) ty28 zze (zzi 48 (.v (re.v)) ty28 zze (zzk 13 ⟨28,zw3⟩ (zzg 46 25 _ fun _ _ aX ds=>qym (k_ratAdd ds (bZ.ext aX).raw (he.ext (br.t (cf.t (ce.t (cc.t aX))))) xq xq) ?_))))))))
 rintro _ u27 bo ⟨r25,rfl,dK⟩
 refine zzg 49 26 _ fun _ _ a8 dy=>qym (k_ratSub dy (bZ.ext (aX.t (bo.t a8))).raw (he.ext (br.t (cf.t (ce.t (cc.t (aX.t (bo.t a8))))))) xq xq) ?_
 rintro _ u33 bv ⟨r31,rfl,c9⟩
 refine zzg 50 24 _ fun _ _ ba di=>qym (k_ratDiv1 di (dK.ext (a8.t (bv.t ba))).raw (c9.ext ba).raw (one_sub_ne he1) xq xq) ?_
 rintro _ u39 bS ⟨bR,rfl,dI⟩
 refine zza 43 (.v (.tuple #[bR.v,.int .i64 0])) (zza 51 (.v (bR.v)) (zza 52 (zI 0) (zzj ⟨28,bR.cs⟩ ty28 ?_)))
 refine zza 14 (zI 0) (zzc 143 [(0,zI n),(3,zI 40),(6,.adr 6 0),(12,.adr 12 0),(13,.adr 13 0)] [(6,⟨28,r.cs⟩),(12,⟨28,aJ.cs⟩),(13,⟨28,bR.cs⟩)] (sq9 (zzi 54 (.v (r.v)) ty28 zze (zza 55 (zI n) (zza 56 (zI 40) (zzg 57 27 _ fun _ _ bu dp=>qym (k_RootG (n:=n) (k:=40) dp (hr.ext (br.t (cf.t (ce.t (cc.t (aX.t (bo.t (a8.t (bv.t (ba.t (bS.t bu))))))))))) (Rat.le_of_lt hq) h1 xq yq xq) ?_))))))
 rintro _ u47 bV ⟨aZ,bg,rfl,du,h46⟩
 refine zza 53 (.v (.tuple #[.agg #[.bool aZ.s,aZ.m.v,aZ.d.v,.bool bg.s,bg.m.v,bg.d.v],.int .i64 0])) (zza 58 (.v (.agg #[.bool aZ.s,aZ.m.v,aZ.d.v,.bool bg.s,bg.m.v,bg.d.v])) (zza 59 (zI 0) (zzk 15 ⟨57,zw6⟩ (zzj ⟨57,aZ.cs++bg.cs⟩ ty57 ?_))))
 refine zza 16 (zI 0) (zzb (sq9 (zzi 60 (.v (bR.v)) ty28 zze (zza 61 (.adr 15 0) (zzi 62 (.v (aZ.v)) ty28 zze (zzg 63 28 _ fun _ _ bq c8=>qym (k_ratMul c8 (dI.ext (bu.t (bV.t bq))).raw (du.ext bq).raw xq xq) ?_))))))
 rintro _ u53 cd ⟨aU,rfl,cS⟩
 refine zzk 17 ⟨28,zw3⟩ (zzj ⟨28,aU.cs⟩ ty28 ?_)
 refine zzb (zzd (sq9 (zza 64 (zI 0) (zza 65 (zB false) (zza 66 (zB false) (zzi 67 (.v (aU.v)) ty28 zze ?_ (hw:=w1 2 false 66)))))))
 refine zzg 68 29 _ (fun _ _ bt dH=>qym (k_ratSign dH (cS.ext bt).raw) ?_) (hw:=w1 2 false 66)
 rintro _ u57 b0 rfl
 refine zza 69 (zB ((sgQ (((((1:Int):Rat)+e) / (((1:Int):Rat) - e))*(Nt.gr 40 (rtN q n 40:Int))))==0)) ?_ (hw:=w1 2 false 66)
 refine zza 70 (zB ((sgQ (((((1:Int):Rat)+e) / (((1:Int):Rat) - e))*(Nt.gr 40 (rtN q n 40:Int))))==0)) (zzb (zzu (b:=(sgQ (((((1:Int):Rat)+e) / (((1:Int):Rat) - e))*(Nt.gr 40 (rtN q n 40:Int))))==0) xj (fun hb=>?_) (fun hb=>?_)))
 ·exact absurd hb (by rw[show ((sgQ (((((1:Int):Rat)+e) / (((1:Int):Rat) - e))*(Nt.gr 40 (rtN q n 40:Int))))==0)=false from (sg_ne (bw_pos h1 h8 hq4 (warp_pos he0 he1)))];decide)
 clear hb
 refine zzs (zzp ?_)
 refine zzd (zzz [0,0,3,0,0,24,23,127] [(0,[]),(1,[]),(2,[]),(3,[]),(4,[]),(5,[]),(6,[]),(7,[])] xj xj (zzi 71 (.v (aJ.v)) ty28 zze (zzi 72 (.v (aJ.v)) ty28 zze (sy_lit 73 ⟨28,aJ.cs++aJ.cs⟩ 2 ?_))))
 refine zzi 74 (.v (aJ.v)) ty28 zze (zzg 75 23 _ fun _ _ bO dG=>qym (k_ratOf dG (z:=(-1)) xq xq) ?_)
 rintro _ u63 b8 ⟨cn,rfl,dJ⟩
 refine sy_lit 76 ⟨28,aJ.cs++cn.cs⟩ 2 ?_
 refine zza 18 (.slc 73 0 2 2) (zza 19 (.slc 76 0 2 2) (zzc 143 [(0,zI n),(3,zI 40),(17,.adr 17 0),(18,.slc 73 0 2 2),(19,.slc 76 0 2 2)] [(17,⟨28,aU.cs⟩),(73,⟨28,aJ.cs++aJ.cs⟩),(76,⟨28,aJ.cs++cn.cs⟩)] (zzd (zyp (r:=18) (t:=73) [18,73] xw xj zq zq xj (fun aR dx bs c4 cC=>?_)))))
 have cm:PolN dx (⟨some ⟨aR,0,none⟩,2,2⟩:Sl) Nt.bp 5:=pol_lit (L:=[aJ,aJ]) cC (rats2 (RatN.more (K:=2) (L:=5) (bZ.ext (aX.t (bo.t (a8.t (bv.t (ba.t (bS.t (bu.t (bV.t (bq.t (cd.t (bt.t (b0.t (bO.t (b8.t bs))))))))))))))) xq) (RatN.more (K:=2) (L:=5) (bZ.ext (aX.t (bo.t (a8.t (bv.t (ba.t (bS.t (bu.t (bV.t (bq.t (cd.t (bt.t (b0.t (bO.t (b8.t bs))))))))))))))) xq)) rfl yq
 refine zyp (r:=19) (t:=76) [19,76] xw xj zq zq xj (fun a6 c1 ca dC cj=>?_)
 have cM:PolN c1 (⟨some ⟨a6,0,none⟩,2,2⟩:Sl) bm 5:=pol_lit (L:=[aJ,cn]) cj (rats2 (RatN.more (K:=2) (L:=5) (bZ.ext (aX.t (bo.t (a8.t (bv.t (ba.t (bS.t (bu.t (bV.t (bq.t (cd.t (bt.t (b0.t (bO.t (b8.t (bs.trans ca)))))))))))))))) xq) (RatN.more (K:=2) (L:=5) (dJ.ext (bs.trans ca)) xq)) rfl yq
 refine zzf (zza 20 (.v (qyn)) (zzb (zzd (sq9 (zza 77 (zI n) (sy_quo 78 (n:=(n:Int)) (m:=2) ((n / 2:Nat):Int) yq (by rw[Int.tdiv_eq_ediv_of_nonneg xq];exact (IntWalk.i64_in _ xq).trans xq) ?_))))))
 refine zza 79 (zI 0) (zzb (zzt (zyn (I:=fun cQ S' u'=>∃ (k:Nat) (yp:Sl) (Ss:List Rt),(cQ=n / 2 - k)∧(k≤n / 2)∧(S'=St.of 143 [(0,zI n),(3,zI 40),(17,.adr 17 0),(18,.v (.slice (some ⟨aR,0,none⟩) 2 2)),(19,.v (.slice (some ⟨a6,0,none⟩) 2 2)),(20,.v (yp.v)),(78,zI (n / 2:Nat)),(79,zI k)] [(17,⟨28,aU.cs⟩)])∧(Ext u u')∧(MutS 2 45 u.heap.size u' yp (rvs Ss))∧(RtN u' Ss (bwS n (((((1:Int):Rat)+e) / (((1:Int):Rat) - e))*(Nt.gr 40 (rtN q n 40:Int))) k) 150000)∧(PolN u' (⟨some ⟨aR,0,none⟩,2,2⟩:Sl) Nt.bp 5)∧(PolN u' (⟨some ⟨a6,0,none⟩,2,2⟩:Sl) bm 5)∧(RatN u' aU (((((1:Int):Rat)+e) / (((1:Int):Rat) - e))*(Nt.gr 40 (rtN q n 40:Int))) 1100)) (fun m S u1 u2 e h=>by obtain ⟨k,yp,Ss,hm,p0,hS,hE,f0,f1,f2,f3,f4⟩:=h;exact ⟨k,yp,Ss,hm,p0,hS,hE.trans e,f0.ext e,f1.ext e,f2.ext e,f3.ext e,f4.ext e⟩) _ yk ⟨0,sl0,[],rfl,by omega,rfl,(br.t (cf.t (ce.t (cc.t (aX.t (bo.t (a8.t (bv.t (ba.t (bS.t (bu.t (bV.t (bq.t (cd.t (bt.t (b0.t (bO.t (b8.t (bs.trans ca))))))))))))))))))),(MutS.nil _ _ _ _),RtN.nil,(cm.ext ca),cM,(RatN.more (K:=(((2+K+1)+(2+K+1))+1000)) (cS.ext (bt.t (b0.t (bO.t (b8.t (bs.trans ca)))))) xq)⟩ ?_)))
 rintro cQ _ u78 ⟨k,yp,Ss,dn,hk,rfl,cY,cb,bB,a7,bL,bH⟩
 have hpn:yp.n=k:=by have h9:=cb.1;rw[rvs_len,bB.1,bwS_len] at h9;omega
 refine sq9 (zza 80 (zB (decide ((k:Int)<((n / 2:Nat):Int)))) (zzb (zzd (zzu (b:=decide ((k:Int)<((n / 2:Nat):Int))) xj (fun be=>?_) (fun be=>?_)))))
 ·have qhb79:=qyt be
  refine zzs (zzp ?_)
  refine zzd (zzt (sq9 (zza 81 (zI k) (zza 21 (zI k) (zzb (sq9 (zza 83 (zI k) (qwi 84 ((2:Int)*(k:Int)) (2*k:Nat) xz (qwi 85 (((2*k:Nat):Int)+1) (((2*k)+1:Nat):Int) xz (zza 86 (zI n) (zza 87 (zI 40) ?_)))))))))))
  refine zzg 88 30 _ fun _ _ aD dE=>qym (k_CosPiG (p:=((2*k+1:Nat):Int)) (q:=n) (k:=40) dE h1 xq xq xq yq (gapQ_80 h1 xq yq)) ?_
  rintro _ u85 aC ⟨a0,bc,rfl,de,h84⟩
  refine zza 82 (.v (.tuple #[.agg #[.bool a0.s,a0.m.v,a0.d.v,.bool bc.s,bc.m.v,bc.d.v],.int .i64 0])) (zza 89 (.v (.agg #[.bool a0.s,a0.m.v,a0.d.v,.bool bc.s,bc.m.v,bc.d.v])) (zza 90 (zI 0) (zzk 22 ⟨57,zw6⟩ (zzj ⟨57,a0.cs++bc.cs⟩ ty57 ?_))))
  refine zza 23 (zI 0) (zzb (zzd (sq9 (zza 91 (zI 0) (zza 92 (zB false) (zzb (zys xj (zzs (zzp ?_)))))))))
  refine zzd (zzz [0,0,3,0,0,31,63,127] [(0,[]),(1,[]),(3,[]),(4,[]),(2,[]),(5,[]),(6,[]),(7,[])] xj xj (zza 94 (.v (.slice (some ⟨a6,0,none⟩) 2 2)) (zza 95 (.v (.slice (some ⟨a6,0,none⟩) 2 2)) (zzi 97 (.v (aU.v)) ty28 zze (zzi 98 (.v (aU.v)) ty28 zze (zzg 96 32 _ fun _ _ aB dw=>qym (k_poMul dw (bL.ext (aD.t (aC.t aB))).raw (bL.ext (aD.t (aC.t aB))).raw (Nat.le_trans (mlK_mono bm_len bm_len qyl qyl) (by decide +kernel)) (by have h9:=bm_len;omega) (by have h9:=bm_len;omega) (by have h9:=bm_len;omega) (by have h9:=bm_len;omega)) ?_))))))
  rintro _ u91 aI ⟨c0,rfl,h90⟩
  replace h90:=PolN.more h90 (Nat.le_trans (mlK_mono bm_len bm_len qyl qyl) (by decide +kernel:_≤166))
  have hly89:=h90.len
  have bz:(trimQ (Nt.mulQ bm bm)).length≤3:=zxt bm_len bm_len
  have cr:PolN _ c0 (trimQ (Nt.mulQ bm bm)) 166:=PolN.more h90 xq
  refine zzg 99 28 _ fun _ _ aG dF=>qym (k_ratMul dF (bH.ext (aD.t (aC.t (aB.t (aI.t aG))))).raw (bH.ext (aD.t (aC.t (aB.t (aI.t aG))))).raw xq xq) ?_
  rintro _ u99 ad ⟨r97,rfl,da⟩
  refine zzg 100 31 _ fun _ _ aa cL=>qym (k_poScale cL (cr.ext (aG.t (ad.t aa))).raw (da.ext aa).raw xq (by have h9:=bz;omega) xq) ?_
  rintro _ dA ah ⟨aW,rfl,bY⟩
  have hly103:=bY.len
  have a4:(trimQ ((trimQ (Nt.mulQ bm bm)).map (· * ((((((1:Int):Rat)+e) / (((1:Int):Rat) - e))*(Nt.gr 40 (rtN q n 40:Int)))*(((((1:Int):Rat)+e) / (((1:Int):Rat) - e))*(Nt.gr 40 (rtN q n 40:Int))))))).length≤3:=map_lenQ bz
  have bN:PolN _ aW (trimQ ((trimQ (Nt.mulQ bm bm)).map (· * ((((((1:Int):Rat)+e) / (((1:Int):Rat) - e))*(Nt.gr 40 (rtN q n 40:Int)))*(((((1:Int):Rat)+e) / (((1:Int):Rat) - e))*(Nt.gr 40 (rtN q n 40:Int))))))) 2366:=PolN.more bY xq
  refine zza 24 (.v (aW.v)) (zzb (zzd (zzz [0,0,2,0,15,31,0,127] [(1,[]),(2,[]),(3,[]),(6,[]),(0,[]),(4,[]),(5,[]),(7,[])] xj xj (zza 102 (.adr 22 0) (zzi 103 (.v (a0.v)) ty28 zze (zzi 104 (.v (aU.v)) ty28 zze (zzk 25 ⟨28,zw3⟩ (zzg 101 23 _ fun _ _ ae cI=>qym (k_ratOf cI (z:=(-2)) xq xq) ?_))))))))
  rintro _ dk af ⟨c7,rfl,ch⟩
  refine zzg 105 28 _ fun _ _ ab cl=>qym (k_ratMul cl (de.ext (aB.t (aI.t (aG.t (ad.t (aa.t (ah.t (ae.t (af.t ab))))))))).raw (bH.ext (aD.t (aC.t (aB.t (aI.t (aG.t (ad.t (aa.t (ah.t (ae.t (af.t ab))))))))))).raw xq xq) ?_
  rintro _ dL ai ⟨df,rfl,cB⟩
  refine zzg 106 28 _ fun _ _ ac cD=>qym (k_ratMul cD (ch.ext (ab.t (ai.t ac))).raw (cB.ext ac).raw xq xq) ?_
  rintro _ dB ak ⟨bk,rfl,cq⟩
  refine zzj ⟨28,bk.cs⟩ ty28 ?_
  refine zzc 143 [(0,zI n),(3,zI 40),(17,.adr 17 0),(18,.v (.slice (some ⟨aR,0,none⟩) 2 2)),(19,.v (.slice (some ⟨a6,0,none⟩) 2 2)),(20,.v (yp.v)),(24,.v (aW.v)),(25,.adr 25 0),(78,zI (n / 2:Nat)),(79,zI k)] [(17,⟨28,aU.cs⟩),(25,⟨28,bk.cs⟩)] (zzd (zzz [0,0,0,6,0,30,63,127] [(0,[]),(1,[]),(2,[]),(4,[]),(3,[]),(5,[]),(6,[]),(7,[])] xj xj (zza 107 (.v (aW.v)) (zza 108 (.v (.slice (some ⟨a6,0,none⟩) 2 2)) (zza 109 (.v (.slice (some ⟨aR,0,none⟩) 2 2)) (zzi 111 (.v (bk.v)) ty28 zze (zzg 110 32 _ fun _ _ ag cF=>qym (k_poMul cF (bL.ext (aD.t (aC.t (aB.t (aI.t (aG.t (ad.t (aa.t (ah.t (ae.t (af.t (ab.t (ai.t (ac.t (ak.t ag))))))))))))))).raw (a7.ext (aD.t (aC.t (aB.t (aI.t (aG.t (ad.t (aa.t (ah.t (ae.t (af.t (ab.t (ai.t (ac.t (ak.t ag))))))))))))))).raw (Nat.le_trans (mlK_mono bm_len bp_len qyl qyl) (by decide +kernel)) (by have h9:=bm_len;omega) (by have h9:=bp_len;omega) (by have h9:=bm_len;omega) (by have h9:=bp_len;omega)) ?_)))))))
  rintro _ dd al ⟨cA,rfl,h130⟩
  replace h130:=PolN.more h130 (Nat.le_trans (mlK_mono bm_len bp_len qyl qyl) (by decide +kernel:_≤166))
  have hly129:=h130.len
  have a1:(trimQ (Nt.mulQ bm Nt.bp)).length≤3:=zxt bm_len bp_len
  have bP:PolN _ cA (trimQ (Nt.mulQ bm Nt.bp)) 166:=PolN.more h130 xq
  refine zzg 112 31 _ fun _ _ aj cx=>qym (k_poScale cx (bP.ext aj).raw (cq.ext (ag.t (al.t aj))).raw xq (by have h9:=a1;omega) xq) ?_
  rintro _ c3 ap ⟨cH,rfl,b4⟩
  have hly137:=b4.len
  have a5:(trimQ ((trimQ (Nt.mulQ bm Nt.bp)).map (· * ((((-2):Int):Rat)*((bwT n k)*(((((1:Int):Rat)+e) / (((1:Int):Rat) - e))*(Nt.gr 40 (rtN q n 40:Int)))))))).length≤3:=map_lenQ a1
  have bx:PolN _ cH (trimQ ((trimQ (Nt.mulQ bm Nt.bp)).map (· * ((((-2):Int):Rat)*((bwT n k)*(((((1:Int):Rat)+e) / (((1:Int):Rat) - e))*(Nt.gr 40 (rtN q n 40:Int)))))))) 1348:=PolN.more b4 xq
  refine zzg 113 33 _ fun _ _ am ct=>qym (k_poAdd ct (bN.ext (ae.t (af.t (ab.t (ai.t (ac.t (ak.t (ag.t (al.t (aj.t (ap.t am))))))))))).raw (bx.ext am).raw xq xq (by have h9:=a4;omega) (by have h9:=a5;omega)) ?_
  rintro _ dm av ⟨bh,rfl,b9⟩
  have hly145:=b9.len
  have a2:(trimQ (addQ (trimQ ((trimQ (Nt.mulQ bm bm)).map (· * ((((((1:Int):Rat)+e) / (((1:Int):Rat) - e))*(Nt.gr 40 (rtN q n 40:Int)))*(((((1:Int):Rat)+e) / (((1:Int):Rat) - e))*(Nt.gr 40 (rtN q n 40:Int))))))) (trimQ ((trimQ (Nt.mulQ bm Nt.bp)).map (· * ((((-2):Int):Rat)*((bwT n k)*(((((1:Int):Rat)+e) / (((1:Int):Rat) - e))*(Nt.gr 40 (rtN q n 40:Int)))))))))).length≤3:=add_lenQ a4 a5
  have bA:PolN _ bh (trimQ (addQ (trimQ ((trimQ (Nt.mulQ bm bm)).map (· * ((((((1:Int):Rat)+e) / (((1:Int):Rat) - e))*(Nt.gr 40 (rtN q n 40:Int)))*(((((1:Int):Rat)+e) / (((1:Int):Rat) - e))*(Nt.gr 40 (rtN q n 40:Int))))))) (trimQ ((trimQ (Nt.mulQ bm Nt.bp)).map (· * ((((-2):Int):Rat)*((bwT n k)*(((((1:Int):Rat)+e) / (((1:Int):Rat) - e))*(Nt.gr 40 (rtN q n 40:Int)))))))))) 3715:=PolN.more b9 xq
  refine zza 24 (.v (bh.v)) (zzb (sq9 (zza 114 (.v (bh.v)) (zza 115 (.v (.slice (some ⟨aR,0,none⟩) 2 2)) (zza 116 (.v (.slice (some ⟨aR,0,none⟩) 2 2)) (zzg 117 32 _ fun _ _ aq cg=>qym (k_poMul cg (a7.ext (aD.t (aC.t (aB.t (aI.t (aG.t (ad.t (aa.t (ah.t (ae.t (af.t (ab.t (ai.t (ac.t (ak.t (ag.t (al.t (aj.t (ap.t (am.t (av.t aq))))))))))))))))))))).raw (a7.ext (aD.t (aC.t (aB.t (aI.t (aG.t (ad.t (aa.t (ah.t (ae.t (af.t (ab.t (ai.t (ac.t (ak.t (ag.t (al.t (aj.t (ap.t (am.t (av.t aq))))))))))))))))))))).raw (Nat.le_trans (mlK_mono bp_len bp_len qyl qyl) (by decide +kernel)) (by have h9:=bp_len;omega) (by have h9:=bp_len;omega) (by have h9:=bp_len;omega) (by have h9:=bp_len;omega)) ?_))))))
  rintro _ dt ax ⟨cP,rfl,h154⟩
  replace h154:=PolN.more h154 (Nat.le_trans (mlK_mono bp_len bp_len qyl qyl) (by decide +kernel:_≤166))
  have hly153:=h154.len
  have aY:(trimQ (Nt.mulQ Nt.bp Nt.bp)).length≤3:=zxt bp_len bp_len
  have bJ:PolN _ cP (trimQ (Nt.mulQ Nt.bp Nt.bp)) 166:=PolN.more h154 xq
  refine zzg 118 33 _ fun _ _ ar cJ=>qym (k_poAdd cJ (bA.ext (aq.t (ax.t ar))).raw (bJ.ext ar).raw xq xq (by have h9:=a2;omega) (by have h9:=aY;omega)) ?_
  rintro _ dc aH ⟨an,rfl,bQ⟩
  have hly161:=bQ.len
  have cU:(trimQ (addQ (trimQ (addQ (trimQ ((trimQ (Nt.mulQ bm bm)).map (· * ((((((1:Int):Rat)+e) / (((1:Int):Rat) - e))*(Nt.gr 40 (rtN q n 40:Int)))*(((((1:Int):Rat)+e) / (((1:Int):Rat) - e))*(Nt.gr 40 (rtN q n 40:Int))))))) (trimQ ((trimQ (Nt.mulQ bm Nt.bp)).map (· * ((((-2):Int):Rat)*((bwT n k)*(((((1:Int):Rat)+e) / (((1:Int):Rat) - e))*(Nt.gr 40 (rtN q n 40:Int)))))))))) (trimQ (Nt.mulQ Nt.bp Nt.bp)))).length≤3:=add_lenQ a2 aY
  have b7:PolN _ an (trimQ (addQ (trimQ (addQ (trimQ ((trimQ (Nt.mulQ bm bm)).map (· * ((((((1:Int):Rat)+e) / (((1:Int):Rat) - e))*(Nt.gr 40 (rtN q n 40:Int)))*(((((1:Int):Rat)+e) / (((1:Int):Rat) - e))*(Nt.gr 40 (rtN q n 40:Int))))))) (trimQ ((trimQ (Nt.mulQ bm Nt.bp)).map (· * ((((-2):Int):Rat)*((bwT n k)*(((((1:Int):Rat)+e) / (((1:Int):Rat) - e))*(Nt.gr 40 (rtN q n 40:Int)))))))))) (trimQ (Nt.mulQ Nt.bp Nt.bp)))) 3882:=PolN.more bQ xq
  refine zza 24 (.v (an.v)) (zzb (zzf (zza 119 (.v (yp.v)) (zza 120 (.v (.slice (some ⟨aR,0,none⟩) 2 2)) (zza 121 (.v (.slice (some ⟨aR,0,none⟩) 2 2)) (zzg 122 32 _ fun _ _ aA cE=>qym (k_poMul cE (a7.ext (aD.t (aC.t (aB.t (aI.t (aG.t (ad.t (aa.t (ah.t (ae.t (af.t (ab.t (ai.t (ac.t (ak.t (ag.t (al.t (aj.t (ap.t (am.t (av.t (aq.t (ax.t (ar.t (aH.t aA))))))))))))))))))))))))).raw (a7.ext (aD.t (aC.t (aB.t (aI.t (aG.t (ad.t (aa.t (ah.t (ae.t (af.t (ab.t (ai.t (ac.t (ak.t (ag.t (al.t (aj.t (ap.t (am.t (av.t (aq.t (ax.t (ar.t (aH.t aA))))))))))))))))))))))))).raw (Nat.le_trans (mlK_mono bp_len bp_len qyl qyl) (by decide +kernel)) (by have h9:=bp_len;omega) (by have h9:=bp_len;omega) (by have h9:=bp_len;omega) (by have h9:=bp_len;omega)) ?_))))))
  rintro _ dD aL ⟨aw,rfl,h170⟩
  replace h170:=PolN.more h170 (Nat.le_trans (mlK_mono bp_len bp_len qyl qyl) (by decide +kernel:_≤166))
  have hly169:=h170.len
  have cX:(trimQ (Nt.mulQ Nt.bp Nt.bp)).length≤3:=zxt bp_len bp_len
  have bC:PolN _ aw (trimQ (Nt.mulQ Nt.bp Nt.bp)) 166:=PolN.more h170 xq
  refine zza 123 (.v (an.v)) (zza 124 (.v (.agg #[aw.v,an.v])) (sy_dataF 125 ⟨45,[aw.v,an.v]⟩ 1 (fun cN b1 aF cw dN dr=>?_)))
  have hA177:=(cb.ext (aD.t (aC.t (aB.t (aI.t (aG.t (ad.t (aa.t (ah.t (ae.t (af.t (ab.t (ai.t (ac.t (ak.t (ag.t (al.t (aj.t (ap.t (am.t (av.t (aq.t (ax.t (ar.t (aH.t (aA.t (aL.t aF)))))))))))))))))))))))))))
  have hN177:=(bB.ext (aD.t (aC.t (aB.t (aI.t (aG.t (ad.t (aa.t (ah.t (ae.t (af.t (ab.t (ai.t (ac.t (ak.t (ag.t (al.t (aj.t (ap.t (am.t (av.t (aq.t (ax.t (ar.t (aH.t (aA.t (aL.t aF)))))))))))))))))))))))))))
  have bb:PolN b1 aw nmQ 150000:=(PolN.more (K:=166) (K':=150000) (bC.ext aF) xq)
  have bj:PolN b1 an (dnP (((((1:Int):Rat)+e) / (((1:Int):Rat) - e))*(Nt.gr 40 (rtN q n 40:Int))) (bwT n k)) 150000:=(PolN.more (K:=3882) (K':=150000) (b7.ext (aA.t (aL.t aF))) xq)
  have hB177:=(a7.ext (aD.t (aC.t (aB.t (aI.t (aG.t (ad.t (aa.t (ah.t (ae.t (af.t (ab.t (ai.t (ac.t (ak.t (ag.t (al.t (aj.t (ap.t (am.t (av.t (aq.t (ax.t (ar.t (aH.t (aA.t (aL.t aF)))))))))))))))))))))))))))
  have hC177:=(bL.ext (aD.t (aC.t (aB.t (aI.t (aG.t (ad.t (aa.t (ah.t (ae.t (af.t (ab.t (ai.t (ac.t (ak.t (ag.t (al.t (aj.t (ap.t (am.t (av.t (aq.t (ax.t (ar.t (aH.t (aA.t (aL.t aF)))))))))))))))))))))))))))
  have hW177:=(bH.ext (aD.t (aC.t (aB.t (aI.t (aG.t (ad.t (aa.t (ah.t (ae.t (af.t (ab.t (ai.t (ac.t (ak.t (ag.t (al.t (aj.t (ap.t (am.t (av.t (aq.t (ax.t (ar.t (aH.t (aA.t (aL.t aF)))))))))))))))))))))))))))
  refine sy_appS 126 (T:=31) (E:=45) (z:=.agg #[qyn,qyn]) (size:=2) (bytes:=48) (b2:=cN) (off:=0) (m:=1) yp (rvs Ss) [aw.v,an.v] hA177 xj xj xj yq rfl (lit_news ((Ext.refl _).cells cw)) (two_one aw an) yq yv xq (is_two aw an) (is_two sl0 sl0) (fun bl bX bK cZ ao cW=>?_)
  have bT:MutS 2 45 u.heap.size bX bl (rvs (Ss++[(aw,an)])):=by rw[rvs_app];exact bK
  have bw:RtN bX (Ss++[(aw,an)]) (bwS n (((((1:Int):Rat)+e) / (((1:Int):Rat) - e))*(Nt.gr 40 (rtN q n 40:Int))) (k+1)) 150000:=RtN.snoc (RtN.keep hN177 hA177 ao) (PolN.keepS bb hA177 ao) (PolN.keepS bj hA177 ao)
  have eR177:=ExtX.root ao (MutQ.mutL hA177.q) (cY.t (aD.t (aC.t (aB.t (aI.t (aG.t (ad.t (aa.t (ah.t (ae.t (af.t (ab.t (ai.t (ac.t (ak.t (ag.t (al.t (aj.t (ap.t (am.t (av.t (aq.t (ax.t (ar.t (aH.t (aA.t (aL.t aF)))))))))))))))))))))))))))
  replace hB177:=PolN.keepS hB177 hA177 ao
  replace hC177:=PolN.keepS hC177 hA177 ao
  replace hW177:=MutQ.keep hA177.q ao hW177
  refine zza 20 (.v (bl.v)) (zzx ?_)
  refine zzp (zzf (qwi 127 ((k:Int)+1) (k+1:Nat) xz (zza 79 (zI (k+1:Nat)) (zzx ?_))))
  refine ⟨_,?_,_,by exact zzv _ _ _,k+1,bl,(Ss++[(aw,an)]),rfl,by omega,rfl,eR177,bT,bw,hB177,hC177,hW177⟩
  omega
 have qhb79:=qyf be
 refine zyc (zzp (zzd (sq9 (zza 128 (zI n) (sy_rem 129 (n:=(n:Int)) (m:=2) ((n%2:Nat):Int) yq (by rw[Int.tmod_eq_emod_of_nonneg xq];omega) ?_)))))
 refine zza 130 (zB (((n%2:Nat):Int)==1)) (zzb (zzu (b:=((n%2:Nat):Int)==1) xj (fun aE=>?_) (fun aE=>?_)))
 ·have a9:((n%2:Nat):Int)=1:=by simpa using aE
  have cv:n / 2=k:=by omega
  rw[← cv] at bB
  refine sw_anyX xj 12 rfl ?_
  refine takeX 0 131 11 (.v (yp.v)) #[true,false,false,false,false,false,false,false,false,false,false,false] ?_
  refine restX [0,0,2,0,0,30,0,126,254,510,1023,2047] [(1,[]),(3,[]),(4,[]),(6,[]),(2,[]),(5,[]),(7,[]),(8,[])] [] (9,[]) [(10,[]),(11,[])] xj ?_
  refine zza 132 (.v (.slice (some ⟨aR,0,none⟩) 2 2)) (zza 134 (.v (.slice (some ⟨a6,0,none⟩) 2 2)) (zzi 135 (.v (aU.v)) ty28 zze (zza 137 (.v (.slice (some ⟨aR,0,none⟩) 2 2)) (zzg 133 34 _ fun _ _ aK cu=>qym (k_poTrim cu (a7.ext aK).raw xq (by have h9:=bp_len;omega)) ?_))))
  rintro _ c6 aP ⟨ay,rfl,cy⟩
  refine zzg 136 31 _ fun _ _ aM cO=>qym (k_poScale cO (bL.ext (aK.t (aP.t aM))).raw (bH.ext (aK.t (aP.t aM))).raw xq (by have h9:=bm_len;omega) xq) ?_
  rintro _ dv aS ⟨cp,rfl,bF⟩
  have hly186:=bF.len
  have a3:(trimQ (bm.map (· * (((((1:Int):Rat)+e) / (((1:Int):Rat) - e))*(Nt.gr 40 (rtN q n 40:Int)))))).length≤2:=map_lenQ bm_len
  have b3:PolN _ cp (trimQ (bm.map (· * (((((1:Int):Rat)+e) / (((1:Int):Rat) - e))*(Nt.gr 40 (rtN q n 40:Int)))))) 1105:=PolN.more bF xq
  refine zzg 138 33 _ fun _ _ aQ cz=>qym (k_poAdd cz (b3.ext aQ).raw (a7.ext (aK.t (aP.t (aM.t (aS.t aQ))))).raw xq xq (by have h9:=a3;omega) (by have h9:=bp_len;omega)) ?_
  rintro _ dM aV ⟨au,rfl,bI⟩
  have hly194:=bI.len
  have cV:(trimQ (addQ (trimQ (bm.map (· * (((((1:Int):Rat)+e) / (((1:Int):Rat) - e))*(Nt.gr 40 (rtN q n 40:Int)))))) Nt.bp)).length≤2:=add_lenQ a3 bp_len
  have bW:PolN _ au (trimQ (addQ (trimQ (bm.map (· * (((((1:Int):Rat)+e) / (((1:Int):Rat) - e))*(Nt.gr 40 (rtN q n 40:Int)))))) Nt.bp)) 1111:=PolN.more bI xq
  refine zza 139 (.v (.agg #[ay.v,au.v])) (zzx ?_)
  refine exitsK_last ?_
  refine sy_dataF 140 ⟨45,[ay.v,au.v]⟩ 1 (fun cK b6 aT ck dj dq=>?_)
  have hA202:=(cb.ext (aK.t (aP.t (aM.t (aS.t (aQ.t (aV.t aT)))))))
  have hN202:=(bB.ext (aK.t (aP.t (aM.t (aS.t (aQ.t (aV.t aT)))))))
  have bn:PolN b6 ay Nt.bp 150000:=by rw[← trim_bp];exact (PolN.more (K:=5) (K':=150000) (cy.ext (aM.t (aS.t (aQ.t (aV.t aT))))) xq)
  have bf:PolN b6 au (dn1 (((((1:Int):Rat)+e) / (((1:Int):Rat) - e))*(Nt.gr 40 (rtN q n 40:Int)))) 150000:=(PolN.more (K:=1111) (K':=150000) (bW.ext aT) xq)
  refine sy_appS 141 (T:=31) (E:=45) (z:=.agg #[qyn,qyn]) (size:=2) (bytes:=48) (b2:=cK) (off:=0) (m:=1) yp (rvs Ss) [ay.v,au.v] hA202 xj xj xj yq rfl (lit_news ((Ext.refl _).cells ck)) (two_one ay au) yq yv xq (is_two ay au) (is_two sl0 sl0) (fun aO bG bE cR aN cT=>?_)
  have bU:MutS 2 45 u.heap.size bG aO (rvs (Ss++[(ay,au)])):=by rw[rvs_app];exact bE
  have bD:RtN bG (Ss++[(ay,au)]) (bwS n (((((1:Int):Rat)+e) / (((1:Int):Rat) - e))*(Nt.gr 40 (rtN q n 40:Int))) (n / 2)++[(Nt.bp,dn1 (((((1:Int):Rat)+e) / (((1:Int):Rat) - e))*(Nt.gr 40 (rtN q n 40:Int))))]) 150000:=RtN.snoc (RtN.keep hN202 hA202 aN) (PolN.keepS bn hA202 aN) (PolN.keepS bf hA202 aN)
  have eR202:=ExtX.root aN (MutQ.mutL hA202.q) (cY.t (aK.t (aP.t (aM.t (aS.t (aQ.t (aV.t aT)))))))
  refine zza 20 (.v (aO.v)) (zzb (sq9 (zza 142 (.v (aO.v)) (zza 8 (.v (aO.v)) (zza 9 (zI 0) (zzb (zzo (ret0 [aO.v,.int .i64 0] ⟨zzq,zzq,trivial⟩ fun db bM=>?_))))))))
  have ho:n%2=1:=by have h9:=eq_of_beq aE;omega
  exact ⟨aO,(Ss++[(ay,au)]),rfl,(bU.ext bM),by unfold bwSs;rw[if_pos ho];exact (bD.ext bM)⟩
 have a9:¬(((n%2:Nat):Int)=1):=by simpa using aE
 refine zzs (zzp ?_)
 refine sq9 (zza 142 (.v (yp.v)) (zza 8 (.v (yp.v)) (zza 9 (zI 0) (zzb (zzo (ret0 [yp.v,.int .i64 0] ⟨zzq,zzq,trivial⟩ fun c2 b5=>?_))))))
 have ho:¬n%2=1:=fun h9=>by have h8:=aE;rw[h9] at h8;exact absurd h8 yq
 have cv:n / 2=k:=by omega
 exact ⟨yp,Ss,rfl,(cb.ext b5),by unfold bwSs;rw[if_neg ho,cv];exact (bB.ext b5)⟩
theorem k_rqPow {u w:World} {r:RL} {q:Rat} {K n:Nat} (d:Dat u w) (hr:RatV u r q K) (hn:n≤64) (hK:K≤100000):qyc 16 #[r.v,.int .i64 (n:Int)] w (Post u w fun v u'=>∃p:RL,v=.tuple #[p.v,.int .i64 0]∧RatN u' p (q^n) (n*(K+2)+2)):=by
 refine zzm Tryz.func16 rfl Tryz.ntmps16 Tryz.results16 d ?_
 refine sq9 (zzk 2 ⟨28,r.cs⟩ (zzk 4 ⟨28,zw3⟩ (zza 5 (zI 0) (zzb (zzd (sq9 (zza 7 (zI n) (zza 8 (zB (decide ((n:Int)<0))) (zyq 9 (x:=zB (decide ((n:Int)<0))) (zB false) (by rw[show (decide ((n:Int)<0))=false from decide_eq_false xq]) (zza 10 (zI n) ?_ (hw:=w1 2 false 9)))))))))))
 refine zza 11 (zB (decide ((64:Int)<(n:Int)))) ?_ (hw:=w1 2 false 9)
 refine zza 12 (zB (decide ((64:Int)<(n:Int)))) (zzb (zzu (b:=decide ((64:Int)<(n:Int))) xj (fun hb=>?_) (fun hb=>?_)))
 ·exact absurd hb (by rw[show (decide ((64:Int)<(n:Int)))=false from decide_eq_false xq];decide)
 clear hb
 refine zzs (zzp ?_)
 refine sq9 (zzg 14 11 _ fun _ _ ah ap=>qym (k_rqOf ap (z:=1) xq xq) ?_)
 rintro _ ao ai ⟨ad,rfl,aj⟩
 refine zzk 6 ⟨28,zw3⟩ (zzj ⟨28,ad.cs⟩ ty28 ?_)
 refine zzb (zzd (zzt (zyn (I:=fun ae S' u'=>∃ (m:Nat) (i:Nat) (y:RL),(ae=m)∧(m+i=n)∧(m≤n)∧(S'=St.of 23 [(1,zI m),(2,.adr 2 0),(4,.adr 4 0),(6,.adr 6 0)] [(2,⟨28,r.cs⟩),(4,⟨28,zw3⟩),(6,⟨28,y.cs⟩)])∧(Ext ao u')∧(RatN u' y (q^i) (i*(K+2)+2))) (fun m S u1 u2 e h=>by obtain ⟨m,i,y,hm,p0,p1,hS,hE,f0⟩:=h;exact ⟨m,i,y,hm,p0,p1,hS,hE.trans e,f0.ext e⟩) _ yk ⟨n,0,ad,rfl,rfl,xq,rfl,(Ext.refl _),(by rw[Rat.pow_zero];exact RatN.more aj xq)⟩ ?_)))
 rintro ae _ u18 ⟨m,i,y,aq,hmi,hmn,rfl,af,f0⟩
 have hsi:i*(K+2)≤64*(K+2):=Nat.mul_le_mul_right _ xq
 refine zzd (sq9 (zza 15 (zI m) (zza 16 (zB (decide ((0:Int)<(m:Int)))) (zzb (zzu (b:=decide ((0:Int)<(m:Int))) xj (fun aa=>?_) (fun aa=>?_))))))
 ·have qhb19:=qyt aa
  refine zzs (zzp ?_)
  refine zzd (zzt (zzf (zzi 19 (.v (y.v)) ty28 zze (zzi 20 (.v (r.v)) ty28 zze (zzg 21 15 _ fun _ _ ab an=>qym (k_rqMul an (f0.ext ab).raw (hr.ext (ah.t (ai.t (af.trans ab)))) xq xq) ?_)))))
  rintro _ u23 ag ⟨ac,rfl,am⟩
  refine zzj ⟨28,ac.cs⟩ ty28 ?_
  refine zzx ?_
  refine zzp (zzf (zza 17 (zI m) (qwi 18 ((m:Int) - 1) (m - 1:Nat) xz (zza 1 (zI (m - 1:Nat)) (zzx ?_)))))
  have hsm:(i+1)*(K+2)=i*(K+2)+(K+2):=Nat.succ_mul _ _
  refine ⟨_,?_,_,by exact zzv _ _ _,m - 1,i+1,ac,rfl,xq,xq,rfl,(af.t (ab.t ag.ext)),(by rw[Rat.pow_succ];exact RatN.more am xq)⟩
  omega
 have qhb19:=qyf aa
 refine zyc (zzp (sq9 (zzi 22 (.v (y.v)) ty28 zze (zzj ⟨28,y.cs⟩ ty28 ?_))))
 refine zza 5 (zI 0) (zzb (zzo (ret0 [y.v,.int .i64 0] ⟨zzr ty28 zze,zzq,trivial⟩ fun u26 al=>?_)))
 have ak:m=0:=by have h9:=qyf aa;omega
 subst ak
 have hin:i=n:=by omega
 subst hin
 exact ⟨y,rfl,RatN.more (f0.ext al) xq⟩
namespace Nt
def fr1 (d:Int):Rat:=((1:Int):Rat) / (d:Rat)
theorem fr1_pos {d:Int} (h:0<d):0<fr1 d:=by
 unfold fr1
 rw[Rat.div_def]
 exact Rat.mul_pos (by decide +kernel) (Rat.inv_pos.2 (castI_pos h))
theorem gr_fr {k:Nat} {a d:Int} (h:0<d):gr k a*fr1 d*(u2 k:Rat)=(a:Rat) / (d:Rat):=by
 have h1:=gr_mul k a
 unfold fr1
 have e:gr k a*(((1:Int):Rat) / (d:Rat))*(u2 k:Rat)=gr k a*(u2 k:Rat)*(((1:Int):Rat) / (d:Rat)):=by grind
 rw[e,h1,Rat.div_def,Rat.div_def]
 show (a:Rat)*(1*(d:Rat)⁻¹)=_
 rw[Rat.one_mul]
theorem fl_gr_fr {k:Nat} {a d:Int} (h:0<d):flU k (gr k a*fr1 d)=a / d∧ceU k (gr k a*fr1 d)=cdiv a d:=⟨flU_eq h (gr_fr h),ceU_eq h (gr_fr h)⟩
theorem fl_fr {k:Nat} {d:Int} (h:0<d):flU k (fr1 d)=u2 k / d∧ceU k (fr1 d)=cdiv (u2 k) d:=by
 have e:fr1 d=gr k (u2 k)*fr1 d:=by rw[gr_one,Rat.one_mul]
 rw[e];exact fl_gr_fr h
theorem sum_fr {k:Nat} {c a d:Int} (h:0<d):(gr k c+gr k a*fr1 d)*(u2 k:Rat)=((c*d+a:Int):Rat) / (d:Rat):=by
 rw[Rat.add_mul,gr_fr h,gr_mul,Rat.intCast_add,Rat.intCast_mul]
 have:=castI_pos h
 have h':(d:Rat)≠0:=by grind
 generalize (d:Rat)=D at *
 grind
theorem fl_sum {k:Nat} {c a d:Int} (h:0<d):flU k (gr k c+gr k a*fr1 d)=c+a / d∧ceU k (gr k c+gr k a*fr1 d)=c+cdiv a d:=by
 rw[flU_eq h (sum_fr h),ceU_eq h (sum_fr h)]
 constructor
 ·rw[Int.add_comm,Int.add_mul_ediv_right _ _ xq,Int.add_comm]
 unfold cdiv
 rw[show -(c*d+a) = -a+(-c)*d by rw[Int.neg_mul];omega,Int.add_mul_ediv_right _ _ xq]
 omega
theorem fl_dif {k:Nat} {c a d:Int} (h:0<d):flU k (gr k c - gr k a*fr1 d)=c - cdiv a d∧ceU k (gr k c - gr k a*fr1 d)=c - a / d:=by
 have e:gr k c - gr k a*fr1 d=gr k c+gr k (-a)*fr1 d:=by rw[← gr_neg,Rat.neg_mul,Rat.sub_eq_add_neg]
 have h1:=fl_sum (k:=k) (c:=c) (a := -a) h
 rw[e,h1.1,h1.2]
 unfold cdiv
 rw[Int.neg_neg]
 omega
section
variable {k j:Nat} {a b c d D:Int}
theorem at_t (hab:a≤b) (hD:0<D):lo4 (gr k a*lo (fr1 D) (fr1 D)) (gr k a*hi (fr1 D) (fr1 D)) (gr k b*lo (fr1 D) (fr1 D)) (gr k b*hi (fr1 D) (fr1 D))=gr k a*fr1 D∧hi4 (gr k a*lo (fr1 D) (fr1 D)) (gr k a*hi (fr1 D) (fr1 D)) (gr k b*lo (fr1 D) (fr1 D)) (gr k b*hi (fr1 D) (fr1 D))=gr k b*fr1 D:=by
 rw[lo_self,hi_self]
 exact lo4_pt (gr_mono hab) (Rat.le_of_lt (fr1_pos hD))
theorem at_end (hD:0<D):decide (cmpQ (gr k b*fr1 D) (gr k 1)≤0)=decide (b≤D):=by
 rw[cmpQ_le,decide_eq_decide]
 have hU:=castI_pos (u2_pos k)
 have hDr:=castI_pos hD
 constructor
 ·intro h
  have h1:=Rat.mul_le_mul_of_nonneg_right h (Rat.le_of_lt hU)
  rw[gr_fr hD,gr_mul] at h1
  have h2:=Rat.mul_le_mul_of_nonneg_right h1 (Rat.le_of_lt hDr)
  rw[div_mul_c hDr,← Rat.intCast_mul,Int.one_mul] at h2
  exact Rat.intCast_le_intCast.1 h2
 intro h
 refine Rat.le_of_mul_le_mul_right (c:=(u2 k:Rat)) ?_ hU
 rw[gr_fr hD,gr_mul]
 refine dv_le hDr ?_
 rw[← Rat.intCast_mul,Int.one_mul]
 exact Rat.intCast_le_intCast.2 h
theorem at_o (hb:0≤b) (hcd:c≤d) (hD:0<D):flU k (lo (gr k c) (gr k d)+lo (lo (-(gr k b*fr1 D)) (gr k b*fr1 D)) (hi (-(gr k b*fr1 D)) (gr k b*fr1 D)))=c - cdiv b D∧ceU k (hi (gr k c) (gr k d)+hi (lo (-(gr k b*fr1 D)) (gr k b*fr1 D)) (hi (-(gr k b*fr1 D)) (gr k b*fr1 D)))=d+cdiv b D:=by
 have h0:0≤gr k b*fr1 D:=Rat.mul_nonneg (gr_nn hb) (Rat.le_of_lt (fr1_pos hD))
 have e1:=lo_of_le (gr_mono (w:=k) hcd)
 have e2:=lo_of_le (show -(gr k b*fr1 D)≤gr k b*fr1 D by grind)
 rw[e1.1,e1.2,e2.1,e2.2,e2.1,e2.2,← Rat.sub_eq_add_neg,(fl_dif hD).1,(fl_sum hD).2]
 exact ⟨rfl,rfl⟩
theorem at_a (hab:a≤b) (hcd:c≤d) (hD:0<D):flU k (lo (gr k c) (gr k d)+lo (gr k a*fr1 D) (gr k b*fr1 D))=c+a / D∧ceU k (hi (gr k c) (gr k d)+hi (gr k a*fr1 D) (gr k b*fr1 D))=d+cdiv b D:=by
 have e1:=lo_of_le (gr_mono (w:=k) hcd)
 have e2:=lo_of_le (Rat.mul_le_mul_of_nonneg_right (gr_mono (w:=k) hab) (Rat.le_of_lt (fr1_pos hD)))
 rw[e1.1,e1.2,e2.1,e2.2,(fl_sum hD).1,(fl_sum hD).2]
 exact ⟨rfl,rfl⟩
theorem at_s (hab:a≤b) (hcd:c≤d) (hD:0<D):flU k (lo (gr k c) (gr k d) - hi (gr k a*fr1 D) (gr k b*fr1 D))=c - cdiv b D∧ceU k (hi (gr k c) (gr k d) - lo (gr k a*fr1 D) (gr k b*fr1 D))=d - a / D:=by
 have e1:=lo_of_le (gr_mono (w:=k) hcd)
 have e2:=lo_of_le (Rat.mul_le_mul_of_nonneg_right (gr_mono (w:=k) hab) (Rat.le_of_lt (fr1_pos hD)))
 rw[e1.1,e1.2,e2.1,e2.2,(fl_dif hD).1,(fl_dif hD).2]
 exact ⟨rfl,rfl⟩
theorem at_x (hab:a≤b) (hD:0<D):flU k (lo4 (gr k a*lo (fr1 D) (fr1 D)) (gr k a*hi (fr1 D) (fr1 D)) (gr k b*lo (fr1 D) (fr1 D)) (gr k b*hi (fr1 D) (fr1 D)))=a / D∧ceU k (hi4 (gr k a*lo (fr1 D) (fr1 D)) (gr k a*hi (fr1 D) (fr1 D)) (gr k b*lo (fr1 D) (fr1 D)) (gr k b*hi (fr1 D) (fr1 D)))=cdiv b D:=by
 have h:=at_t (k:=k) hab hD
 rw[h.1,h.2,(fl_gr_fr hD).1,(fl_gr_fr hD).2]
 exact ⟨rfl,rfl⟩
theorem pi_m {m:Nat} (hab:a≤b):lo4 (gr k a*lo ((m:Int):Rat) ((m:Int):Rat)) (gr k a*hi ((m:Int):Rat) ((m:Int):Rat)) (gr k b*lo ((m:Int):Rat) ((m:Int):Rat)) (gr k b*hi ((m:Int):Rat) ((m:Int):Rat))=gr k (a*(m:Int))∧hi4 (gr k a*lo ((m:Int):Rat) ((m:Int):Rat)) (gr k a*hi ((m:Int):Rat) ((m:Int):Rat)) (gr k b*lo ((m:Int):Rat) ((m:Int):Rat)) (gr k b*hi ((m:Int):Rat) ((m:Int):Rat))=gr k (b*(m:Int)):=by
 have h0:(0:Rat)≤((m:Int):Rat):=Rat.intCast_le_intCast.2 (show (0:Int)≤(m:Int) by omega)
 rw[lo_self,hi_self]
 have h:=lo4_pt (gr_mono (w:=k) hab) h0
 rw[h.1,h.2,Rat.mul_comm,gr_int,Rat.mul_comm,gr_int,Int.mul_comm,Int.mul_comm b]
 exact ⟨rfl,rfl⟩
end
theorem sq_of_nn {x y:Rat} (h0:0≤x) (h:x≤y) (hy:0<y):sql x y=x*x∧sqh x y=y*y:=by
 have hm:=mulm h h h0 h0
 have e:=lo_of_le hm
 have e2:=lo_of_le h
 unfold sql sqh sgI
 rw[e.1,e.2,e2.1,e2.2]
 refine ⟨?_,rfl⟩
 by_cases hx:0<x
 ·rw[if_pos hx,if_neg yq]
 have:x=0:=by grind
 subst this
 rw[if_neg hx,if_neg (Rat.not_lt.2 (Rat.le_of_lt hy)),if_pos rfl,Rat.zero_mul]
section
variable {k j:Nat} {tl th ql qh c d z:Int}
theorem cs_end:decide (cmpQ (gr k th) (gr k 1)≤0)=decide (th≤1):=by rw[cmpQ_le,decide_eq_decide];exact gr_le
theorem cs_o (ht:0≤th) (hcd:c≤d):lo (gr k c) (gr k d)+lo (lo (-gr k th) (gr k th)) (hi (-gr k th) (gr k th))=gr k (c - th)∧hi (gr k c) (gr k d)+hi (lo (-gr k th) (gr k th)) (hi (-gr k th) (gr k th))=gr k (d+th):=by
 have e1:=lo_of_le (gr_mono (w:=k) hcd)
 have e2:=lo_of_le (show -gr k th≤gr k th by rw[gr_neg];exact gr_mono xq)
 rw[e1.1,e1.2,e2.1,e2.2,e2.1,e2.2,← Rat.sub_eq_add_neg,gr_sub,gr_add]
 exact ⟨rfl,rfl⟩
theorem cs_a (ht:tl≤th) (hcd:c≤d):lo (gr k c) (gr k d)+lo (gr k tl) (gr k th)=gr k (c+tl)∧hi (gr k c) (gr k d)+hi (gr k tl) (gr k th)=gr k (d+th):=by
 have e1:=lo_of_le (gr_mono (w:=k) hcd)
 have e2:=lo_of_le (gr_mono (w:=k) ht)
 rw[e1.1,e1.2,e2.1,e2.2,gr_add,gr_add]
 exact ⟨rfl,rfl⟩
theorem cs_s (ht:tl≤th) (hcd:c≤d):lo (gr k c) (gr k d) - hi (gr k tl) (gr k th)=gr k (c - th)∧hi (gr k c) (gr k d) - lo (gr k tl) (gr k th)=gr k (d - tl):=by
 have e1:=lo_of_le (gr_mono (w:=k) hcd)
 have e2:=lo_of_le (gr_mono (w:=k) ht)
 rw[e1.1,e1.2,e2.1,e2.2,gr_sub,gr_sub]
 exact ⟨rfl,rfl⟩
theorem grr_fr {x y D:Int} (hD:0<D):gr k x*gr k y*fr1 D*(u2 k:Rat)=((x*y:Int):Rat) / ((u2 k*D:Int):Rat):=by
 have a:=castI_pos (u2_pos k)
 have b:=castI_pos hD
 unfold gr fr1
 rw[Rat.intCast_mul,Rat.intCast_mul]
 have a':(u2 k:Rat)≠0:=by grind
 have b':(D:Rat)≠0:=by grind
 have e:((1:Int):Rat)=1:=rfl
 rw[e]
 generalize (u2 k:Rat)=p at *
 generalize (D:Rat)=q at *
 grind
theorem cs_t (h0:0≤tl) (ht:tl≤th) (q0:0≤ql) (hq:ql≤qh) {F:Rat} (hF:F=fr1 (coD j)) :
  flU k (lo4 (lo4 (gr k tl*gr k ql) (gr k tl*gr k qh) (gr k th*gr k ql) (gr k th*gr k qh)*lo F F) (lo4 (gr k tl*gr k ql) (gr k tl*gr k qh) (gr k th*gr k ql) (gr k th*gr k qh)*hi F F) (hi4 (gr k tl*gr k ql) (gr k tl*gr k qh) (gr k th*gr k ql) (gr k th*gr k qh)*lo F F) (hi4 (gr k tl*gr k ql) (gr k tl*gr k qh) (gr k th*gr k ql) (gr k th*gr k qh)*hi F F))=csL k j tl ql ∧
  ceU k (hi4 (lo4 (gr k tl*gr k ql) (gr k tl*gr k qh) (gr k th*gr k ql) (gr k th*gr k qh)*lo F F) (lo4 (gr k tl*gr k ql) (gr k tl*gr k qh) (gr k th*gr k ql) (gr k th*gr k qh)*hi F F) (hi4 (gr k tl*gr k ql) (gr k tl*gr k qh) (gr k th*gr k ql) (gr k th*gr k qh)*lo F F) (hi4 (gr k tl*gr k ql) (gr k tl*gr k qh) (gr k th*gr k ql) (gr k th*gr k qh)*hi F F))=csH k j th qh:=by
 have hD:=coD_pos j
 have hU:=u2_pos k
 have e1:=lo4_nn (gr_mono (w:=k) ht) (gr_mono (w:=k) hq) (gr_nn h0) (gr_nn q0)
 have hm:=mulm (gr_mono (w:=k) ht) (gr_mono (w:=k) hq) (gr_nn h0) (gr_nn q0)
 have hf:=fr1_pos (d:=coD j) xq
 rw[hF,lo_self,hi_self,e1.1,e1.2,(lo4_pt hm (Rat.le_of_lt hf)).1,(lo4_pt hm (Rat.le_of_lt hf)).2]
 have hUD:0<u2 k*coD j:=Int.mul_pos hU xq
 rw[flU_eq hUD (grr_fr xq),ceU_eq hUD (grr_fr xq)]
 unfold csL csH
 rw[cdiv_cdiv hU xq,Int.ediv_ediv_of_nonneg xq]
 exact ⟨rfl,rfl⟩
theorem coD_mulR (h:j≤1000):IntKind.i64.wrap (((2*j+1:Nat):Int)*((2*j+2:Nat):Int))=coD j∧coD j≤10000000:=by
 have h1:=coD_mul h
 have e:((2*j+1:Nat):Int)*((2*j+2:Nat):Int)=((2*j+2:Nat):Int)*((2*j+2 - 1:Nat):Int):=by
  rw[show 2*j+2 - 1=2*j+1 by omega,Int.mul_comm]
 rw[e];exact h1
theorem tight_hi:(mkRat z 1+((1:Int):Rat)) / (((2^k:Nat):Int):Rat)=gr k (z+1):=by
 rw[mk_one,← Rat.intCast_add];rfl
theorem tight_lo:mkRat z 1 / (((2^k:Nat):Int):Rat)=gr k z:=by rw[mk_one];rfl
end
theorem gr_rs {k:Nat} {z:Int} {L:Nat} (hz:dl z.natAbs≤L) (hk:k<32*L):rs (gr k z)≤L:=by
 have e:gr k z=mkRat z (2^k):=by unfold gr;rw[Rat.mkRat_eq_div];rfl
 rw[e]
 refine rs_mk hz ?_ xq
 have h:=dl_u2 (z:=u2 k) (L:=L) (b:=k) (by have:=u2_pos k;omega) (Int.le_refl _) hk
 have e2:(u2 k).natAbs=2^k:=Int.natAbs_natCast _
 rwa [e2] at h
end Nt
theorem RatN.limG {u:World} {r:RL} {z:Int} {k K:Nat} (h:RatN u r (Nt.gr k z) K) (h0 : -(Nt.u2 1000)≤z) (h1:z≤Nt.u2 1000) (hk:k≤800):RatN u r (Nt.gr k z) 40:=h.fit (gr_rs (dl_u2 h0 h1 yq) xq)
theorem k_wide {u w:World} {a1 a2:RL} {x1 x2:Rat} {K k:Nat} (d:Dat u w) (ha1:RatV u a1 x1 K) (ha2:RatV u a2 x2 K) (hk:k≤800) (hK:K≤100000):qyc 157 #[IV a1 a2,.int .i64 (k:Int)] w (Post u w fun v u'=>∃r1 r2:RL,v=IV r1 r2∧RatN u' r1 (Nt.gr k (flU k x1)) (K+70)∧RatN u' r2 (Nt.gr k (ceU k x2)) (K+70)):=by
 refine zzm Tryz.func157 rfl Tryz.ntmps157 Tryz.results157 d ?_
 refine sq9 (zzk 2 ⟨57,a1.cs++a2.cs⟩ (zzk 4 ⟨57,zw6⟩ (zzb (sq9 (zza 8 (zI k) (zzg 9 95 _ fun _ _ aA aM=>qym (k_unit (k:=k) aM xq) ?_))))))
 rintro _ u14 aB ⟨aj,rfl,an⟩
 refine zzk 5 ⟨28,zw3⟩ (zzj ⟨28,aj.cs⟩ ty28 ?_)
 refine zzb (sq9 (zza 10 (.adr 2 0) (zzi 11 (.v (a1.v)) ty28 zze (zzi 12 (.v (aj.v)) ty28 zze (zzg 13 15 _ fun _ _ ac aO=>qym (k_rqMul aO (ha1.ext (aA.t (aB.t ac))) (an.ext ac).raw xq xq) ?_)))))
 rintro _ u20 av ⟨r18,rfl,aZ⟩
 refine zzg 14 97 _ fun _ _ ai aY=>qym (k_floor aY (aZ.ext ai).raw xq) ?_
 rintro _ u26 ar ⟨ae,rfl,aQ⟩
 refine zxx 15 ⟨79,[.int .u32 1]⟩ 1 (fun aw u30 am aX=>?_)
 refine zza 16 (.v (.agg #[.bool ae.s,ae.m.v,.slice (some ⟨aw,0,none⟩) 1 1])) (zzk 6 ⟨28,zw3⟩ (zzj ⟨28,ae.cs++[.slice (some ⟨aw,0,none⟩) 1 1]⟩ ty28 ?_))
 refine zzb (sq9 (zza 17 (.adr 2 3) (zzi 18 (.v (a2.v)) ty28 zze (zzi 19 (.v (aj.v)) ty28 zze (zzg 20 15 _ fun _ _ ad aH=>qym (k_rqMul aH (ha2.ext (aA.t (aB.t (ac.t (av.t (ai.t (ar.t (am.trans ad)))))))) (an.ext (ac.t (av.t (ai.t (ar.t (am.trans ad)))))).raw xq xq) ?_)))))
 rintro _ u36 ap ⟨r34,rfl,aW⟩
 refine zzg 21 59 _ fun _ _ ah aR=>qym (k_rqNeg aR (aW.ext ah).raw xq) ?_
 rintro _ u42 au ⟨r40,rfl,aG⟩
 refine zzg 22 97 _ fun _ _ ak aN=>qym (k_floor aN (aG.ext ak).raw xq) ?_
 rintro _ u48 aq ⟨ax,rfl,aP⟩
 refine zxx 23 ⟨79,[.int .u32 1]⟩ 1 (fun aT u52 al aS=>?_)
 refine zza 24 (.v (.agg #[.bool ax.s,ax.m.v,.slice (some ⟨aT,0,none⟩) 1 1])) (zzg 25 59 _ fun _ _ af aF=>qym (k_rqNeg aF (rat_mk2 (s:=ax.s) (aP.ext (al.trans af)).raw ((one_data aS).ext af).raw) xq) ?_)
 rintro _ u58 ao ⟨aD,rfl,aU⟩
 refine zzk 7 ⟨28,zw3⟩ (zzj ⟨28,aD.cs⟩ ty28 ?_)
 refine zzb (zzd (zzz [0,0,3,0,0,31,63,127] [(0,[]),(1,[]),(3,[]),(4,[]),(2,[]),(5,[]),(6,[]),(7,[])] xj xj (zzi 26 (.v (.agg #[.bool ae.s,ae.m.v,.slice (some ⟨aw,0,none⟩) 1 1])) ty28 zze (zzi 27 (.v (aj.v)) ty28 zze (zzi 29 (.v (aD.v)) ty28 zze (zzi 30 (.v (aj.v)) ty28 zze (zzg 28 98 _ fun _ _ ag aL=>qym (k_rqOver aL (rat_mk2 (s:=ae.s) (aQ.ext (am.t (ad.t (ap.t (ah.t (au.t (ak.t (aq.t (al.t (af.t (ao.t ag))))))))))).raw ((one_data aX).ext (ad.t (ap.t (ah.t (au.t (ak.t (aq.t (al.t (af.t (ao.t ag)))))))))).raw) (an.ext (ac.t (av.t (ai.t (ar.t (am.t (ad.t (ap.t (ah.t (au.t (ak.t (aq.t (al.t (af.t (ao.t ag))))))))))))))).raw xq xq) ?_)))))))
 rintro _ u64 aC ⟨ab,rfl,aV⟩
 refine zzg 31 98 _ fun _ _ ay aI=>qym (k_rqOver aI (aU.ext (ag.t (aC.t ay))).raw (an.ext (ac.t (av.t (ai.t (ar.t (am.t (ad.t (ap.t (ah.t (au.t (ak.t (aq.t (al.t (af.t (ao.t (ag.t (aC.t ay))))))))))))))))).raw xq xq) ?_
 rintro _ u70 aJ ⟨aa,rfl,aK⟩
 refine zza 32 (.v (.agg #[.bool ab.s,ab.m.v,ab.d.v,.bool aa.s,aa.m.v,aa.d.v])) (zzj ⟨57,ab.cs++aa.cs⟩ ty57 ?_)
 refine zzc 33 [(4,.adr 4 0)] [(4,⟨57,ab.cs++aa.cs⟩)] (zzo (ret0 [.agg #[.bool ab.s,ab.m.v,ab.d.v,.bool aa.s,aa.m.v,aa.d.v]] ⟨zzr ty57 zze,trivial⟩ fun u73 aE=>?_))
 refine ⟨ab,aa,rfl,RatN.more (K:=((max (max ((K+(k / 32+2)+1)+1) 1) 1)+(k / 32+2)+2)) ?_ xq,RatN.more (K:=((max (max ((K+(k / 32+2)+1)+1) 1) 1)+(k / 32+2)+2)) ?_ xq⟩
 ·have h9:=(aV.ext (ay.t (aJ.t aE)))
  rw[mk_one] at h9
  exact h9
 have h9:=(aK.ext aE)
 rw[mk_one,← Rat.intCast_neg] at h9
 exact h9
theorem k_atan {u w:World} {n k:Nat} (d:Dat u w) (hn:2≤n) (hn2:n≤1000) (hk:k≤800):qyc 163 #[.int .i64 (n:Int),.int .i64 (k:Int)] w (Post u w fun v u'=>∃ (r1 r2:RL) (a b:Int),v=IV r1 r2∧RatN u' r1 (Nt.gr k a) 40∧RatN u' r2 (Nt.gr k b) 40∧AtR n k a b):=by
 have hN2:4≤n*n:=Nat.mul_le_mul hn hn
 have hN3:n*n≤1000000:=Nat.mul_le_mul hn2 hn2
 have hbig:=big hk
 have hu2:=u2_pos k
 refine zzm Tryz.func163 rfl Tryz.ntmps163 Tryz.results163 d ?_
 refine sq9 (zzk 4 ⟨57,zw6⟩ (zzb (sq9 (zzg 11 11 _ fun _ _ _ cK=>qym (k_rqOf cK (z:=0) xq xq) ?_))))
 rintro _ u14 g15 ⟨r12,rfl,da⟩
 refine zzg 12 11 _ fun _ _ cF df=>qym (k_rqOf df (z:=0) xq xq) ?_
 rintro _ u20 cY ⟨r18,rfl,dr⟩
 refine zzg 13 100 _ fun _ _ cB cU=>qym (k_r4Make cU (da.ext (cF.t (cY.t cB))).raw (dr.ext cB).raw xq) ?_
 rintro _ u28 g29 ⟨b0,cp,rfl,cM,dh⟩
 refine zzk 5 ⟨57,zw6⟩ (zzj ⟨57,b0.cs++cp.cs⟩ ty57 ?_)
 refine zzb (sq9 (zza 14 (zI n) (zzg 15 5 _ fun _ _ cw dm=>qym (k_rqFrac dm (a:=1) (b:=(n:Int)) xq xq xq xq) ?_)))
 rintro _ u34 cz ⟨r32,rfl,dB⟩
 refine zza 16 (zI n) (zzg 17 5 _ fun _ _ bS cI=>qym (k_rqFrac cI (a:=1) (b:=(n:Int)) xq xq xq xq) ?_)
 rintro _ u40 cr ⟨r38,rfl,c9⟩
 refine zzg 18 100 _ fun _ _ bu dc=>qym (k_r4Make dc (dB.ext (bS.t (cr.t bu))).raw (c9.ext bu).raw xq) ?_
 rintro _ u48 cA ⟨bA,bx,rfl,dt,dv⟩
 refine zzk 6 ⟨57,zw6⟩ (zzj ⟨57,bA.cs++bx.cs⟩ ty57 ?_)
 refine zzb (sq9 (zzi 19 (.v (.agg #[.bool bA.s,bA.m.v,bA.d.v,.bool bx.s,bx.m.v,bx.d.v])) ty57 zze (zza 20 (zI k) (zzg 21 157 _ fun _ _ bB cS=>qym (k_wide (k:=k) cS (dt.ext bB).raw (dv.ext bB).raw xq xq) ?_))))
 rintro _ u56 cv ⟨bL,bZ,rfl,dC,dx⟩
 refine zzj ⟨57,bL.cs++bZ.cs⟩ ty57 ?_
 refine zzb (sq9 (zza 22 (zI n) (zza 23 (zI n) (qwi 24 ((n:Int)*(n:Int)) (n*n:Nat) (by rw[← Int.natCast_mul];exact IntWalk.i64_in _ xq) (zzg 25 5 _ fun _ _ bv cZ=>qym (k_rqFrac cZ (a:=1) (b:=((n*n:Nat):Int)) xq xq xq xq) ?_)))))
 rintro _ u62 bz ⟨r60,rfl,c2⟩
 refine zza 26 (zI n) (zza 27 (zI n) (qwi 28 ((n:Int)*(n:Int)) (n*n:Nat) (by rw[← Int.natCast_mul];exact IntWalk.i64_in _ xq) (zzg 29 5 _ fun _ _ bs dF=>qym (k_rqFrac dF (a:=1) (b:=((n*n:Nat):Int)) xq xq xq xq) ?_)))
 rintro _ u68 bg ⟨r66,rfl,db⟩
 refine zzg 30 100 _ fun _ _ a9 c4=>qym (k_r4Make c4 (c2.ext (bs.t (bg.t a9))).raw (db.ext a9).raw xq) ?_
 rintro _ u76 bt ⟨aK,aL,rfl,cy,cC⟩
 refine zzk 7 ⟨57,zw6⟩ (zzj ⟨57,aK.cs++aL.cs⟩ ty57 ?_)
 refine zzb (sq9 (zzg 31 11 _ fun _ _ aV c5=>qym (k_rqOf c5 (z:=1) xq xq) ?_))
 rintro _ u82 aW ⟨r80,rfl,c1⟩
 refine zza 32 (zI k) (zzg 33 95 _ fun _ _ aN dn=>qym (k_unit (k:=k) dn xq) ?_)
 rintro _ u88 aU ⟨r86,rfl,cP⟩
 refine zzg 34 98 _ fun _ _ aJ dj=>qym (k_rqOver dj (c1.ext (aN.t (aU.t aJ))).raw (cP.ext aJ).raw xq xq) ?_
 rintro _ dG aX ⟨bw,rfl,cL⟩
 refine zzk 8 ⟨28,zw3⟩ (zzj ⟨28,bw.cs⟩ ty28 ?_)
 refine zzc 80 [(1,zI k),(4,.adr 4 0),(5,.adr 5 0),(6,.adr 6 0),(7,.adr 7 0),(8,.adr 8 0)] [(4,⟨57,zw6⟩),(5,⟨57,b0.cs++cp.cs⟩),(6,⟨57,bL.cs++bZ.cs⟩),(7,⟨57,aK.cs++aL.cs⟩),(8,⟨28,bw.cs⟩)] (sq9 (zza 9 (zI 0) (zzb (zzt (zyn (I:=fun cx S' u'=>∃ (j:Nat) (x1:RL) (x2:RL) (y1:RL) (y2:RL) (a:Int) (b:Int) (cc:Int) (dd:Int),(cx=b.toNat)∧(AtF n k j a b cc dd)∧(S'=St.of 80 [(1,zI k),(4,.adr 4 0),(5,.adr 5 0),(6,.adr 6 0),(7,.adr 7 0),(8,.adr 8 0),(9,zI j)] [(4,⟨57,zw6⟩),(5,⟨57,y1.cs++y2.cs⟩),(6,⟨57,x1.cs++x2.cs⟩),(7,⟨57,aK.cs++aL.cs⟩),(8,⟨28,bw.cs⟩)])∧(Ext dG u')∧(RatN u' x1 (Nt.gr k a) 40)∧(RatN u' x2 (Nt.gr k b) 40)∧(RatN u' y1 (Nt.gr k cc) 40)∧(RatN u' y2 (Nt.gr k dd) 40)) (fun m S u1 u2 e h=>by obtain ⟨j,x1,x2,y1,y2,a,b,cc,dd,hm,p0,hS,hE,f0,f1,f2,f3⟩:=h;exact ⟨j,x1,x2,y1,y2,a,b,cc,dd,hm,p0,hS,hE.trans e,f0.ext e,f1.ext e,f2.ext e,f3.ext e⟩) _ yk ⟨0,bL,bZ,b0,cp,(Nt.u2 k / (n:Int)),(cdiv (Nt.u2 k) (n:Int)),0,0,rfl,(AtF.start xq),rfl,(Ext.refl _),(RatN.limG (by have h9:=(dC.ext (bv.t (bz.t (bs.t (bg.t (a9.t (bt.t (aV.t (aW.t (aN.t (aU.t (aJ.t aX.ext))))))))))));rw[lo_self,show (((1:Int):Rat) / ((n:Int):Rat))=fr1 (n:Int) from rfl,(fl_fr xq).1] at h9;exact h9) (by have h8:=(AtF.start (n:=n) (w:=k) xq).bd xq;have h7:=(AtF.start (n:=n) (w:=k) xq).ab;have h6:=(AtF.start (n:=n) (w:=k) xq).p0;omega) (by have h8:=(AtF.start (n:=n) (w:=k) xq).bd xq;have h7:=(AtF.start (n:=n) (w:=k) xq).ab;have h6:=(AtF.start (n:=n) (w:=k) xq).p0;omega) hk),(RatN.limG (by have h9:=(dx.ext (bv.t (bz.t (bs.t (bg.t (a9.t (bt.t (aV.t (aW.t (aN.t (aU.t (aJ.t aX.ext))))))))))));rw[hi_self,show (((1:Int):Rat) / ((n:Int):Rat))=fr1 (n:Int) from rfl,(fl_fr xq).2] at h9;exact h9) (by have h8:=(AtF.start (n:=n) (w:=k) xq).bd xq;have h7:=(AtF.start (n:=n) (w:=k) xq).ab;have h6:=(AtF.start (n:=n) (w:=k) xq).p0;omega) (by have h8:=(AtF.start (n:=n) (w:=k) xq).bd xq;have h7:=(AtF.start (n:=n) (w:=k) xq).ab;have h6:=(AtF.start (n:=n) (w:=k) xq).p0;omega) hk),(by have h9:=(cM.ext (cw.t (cz.t (bS.t (cr.t (bu.t (cA.t (bB.t (cv.t (bv.t (bz.t (bs.t (bg.t (a9.t (bt.t (aV.t (aW.t (aN.t (aU.t (aJ.t aX.ext))))))))))))))))))));rw[lo_self,show ((0:Int):Rat)=Nt.gr k 0 from (gr_zero k).symm] at h9;exact RatN.more h9 xq),(by have h9:=(dh.ext (cw.t (cz.t (bS.t (cr.t (bu.t (cA.t (bB.t (cv.t (bv.t (bz.t (bs.t (bg.t (a9.t (bt.t (aV.t (aW.t (aN.t (aU.t (aJ.t aX.ext))))))))))))))))))));rw[hi_self,show ((0:Int):Rat)=Nt.gr k 0 from (gr_zero k).symm] at h9;exact RatN.more h9 xq)⟩ ?_)))))
 rintro cx _ u97 ⟨j,x1,x2,y1,y2,a,b,cc,dd,di,hI,rfl,a1,f0,f1,f2,f3⟩
 have hjw:=hI.kw
 have hbd:=hI.bd xq
 have hab:=hI.ab
 have hcd:=hI.cd
 have hp0:=hI.p0
 have hp1:=hI.p1
 refine zzd (zzt (zzd (zzz [0,0,2,6,14,0,32,96,254,510,1023,0,4095] [(0,[]),(1,[]),(2,[]),(3,[]),(5,[]),(6,[]),(7,[]),(11,[]),(4,[]),(8,[]),(9,[]),(10,[]),(12,[])] xj xj (zzi 37 (.v (.agg #[.bool x1.s,x1.m.v,x1.d.v,.bool x2.s,x2.m.v,x2.d.v])) ty57 zze (zza 38 (zI j) (qwi 39 ((2:Int)*(j:Int)) (2*j:Nat) xz (qwi 40 (((2*j:Nat):Int)+1) (((2*j)+1:Nat):Int) xz (zza 42 (zI j) (qwi 43 ((2:Int)*(j:Int)) (2*j:Nat) xz (qwi 44 (((2*j:Nat):Int)+1) (((2*j)+1:Nat):Int) xz (zzk 10 ⟨57,zw6⟩ ?_)))))))))))
 refine zzg 41 5 _ fun _ _ ao dE=>qym (k_rqFrac dE (a:=1) (b:=(((2*j)+1:Nat):Int)) xq xq xq xq) ?_
 rintro _ dH ah ⟨r99,rfl,bO⟩
 refine zzg 45 5 _ fun _ _ ag b3=>qym (k_rqFrac b3 (a:=1) (b:=(((2*j)+1:Nat):Int)) xq xq xq xq) ?_
 rintro _ cO af ⟨dk,rfl,ca⟩
 refine zzg 46 100 _ fun _ _ ad cl=>qym (k_r4Make cl (bO.ext (ag.t (af.t ad))).raw (ca.ext ad).raw xq) ?_
 rintro _ cJ ai ⟨cN,cD,rfl,bG,cq⟩
 refine zzg 47 103 _ fun _ _ ae bJ=>qym (k_r4Mul bJ (f0.ext (ao.t (ah.t (ag.t (af.t (ad.t (ai.t ae))))))).raw (f1.ext (ao.t (ah.t (ag.t (af.t (ad.t (ai.t ae))))))).raw (bG.ext ae).raw (cq.ext ae).raw xq xq) ?_
 rintro _ be aj ⟨ar,ak,rfl,bU,b1⟩
 refine zzj ⟨57,ar.cs++ak.cs⟩ ty57 ?_
 refine zzb (zzd (zzd ?_))
 have aY:RatN be ar (Nt.gr k a*(fr1 ((2*j+1:Nat):Int))) (40+3+1):=zRc bU ((at_t hab xq).1)
 have aq:RatN be ak (Nt.gr k b*(fr1 ((2*j+1:Nat):Int))) (40+3+1):=zRc b1 ((at_t hab xq).2)
 refine zzf (zza 48 (.adr 10 3) (zzi 49 (.v (ak.v)) ty28 zze (zzi 50 (.v (bw.v)) ty28 zze (zzg 51 13 _ fun _ _ aa ch=>qym (k_rqCompare ch (aq.ext aa).raw (cL.ext (a1.t (ao.t (ah.t (ag.t (af.t (ad.t (ai.t (ae.t (aj.t aa)))))))))).raw xq xq) ?_))))
 rintro _ dA ac rfl
 refine zza 52 (zB (decide ((cmpQ (Nt.gr k b*(fr1 ((2*j+1:Nat):Int))) (((1:Int):Rat) / (((2^k:Nat):Int):Rat)))≤0))) (zzb (zzu (b:=decide ((cmpQ (Nt.gr k b*(fr1 ((2*j+1:Nat):Int))) (((1:Int):Rat) / (((2^k:Nat):Int):Rat)))≤0)) xj (fun al=>?_) (fun al=>?_)))
 ·have qhb132:=qyt al
  refine zzd (zzz [0,0,2,6,0,16,62,127,0,511,1023] [(0,[]),(1,[]),(2,[]),(4,[]),(5,[]),(8,[]),(3,[]),(6,[]),(7,[]),(9,[]),(10,[])] xj xj (zzi 53 (.v (.agg #[.bool y1.s,y1.m.v,y1.d.v,.bool y2.s,y2.m.v,y2.d.v])) ty57 zze (zza 54 (.adr 10 3) (zzi 55 (.v (ak.v)) ty28 zze (zza 57 (.adr 10 3) (zzi 58 (.v (ak.v)) ty28 zze (zza 61 (zI k) (zzg 56 59 _ fun _ _ aR b7=>qym (k_rqNeg b7 (aq.ext (aa.t (ac.t aR))).raw xq) ?_))))))))
  rintro _ du a4 ⟨dD,rfl,bK⟩
  refine zzg 59 100 _ fun _ _ aQ bY=>qym (k_r4Make bY (bK.ext aQ).raw (aq.ext (aa.t (ac.t (aR.t (a4.t aQ))))).raw xq) ?_
  rintro _ c6 bc ⟨cX,de,rfl,ck,b6⟩
  refine zzg 60 159 _ fun _ _ aT b4=>qym (k_r4Add b4 (f2.ext (ao.t (ah.t (ag.t (af.t (ad.t (ai.t (ae.t (aj.t (aa.t (ac.t (aR.t (a4.t (aQ.t (bc.t aT))))))))))))))).raw (f3.ext (ao.t (ah.t (ag.t (af.t (ad.t (ai.t (ae.t (aj.t (aa.t (ac.t (aR.t (a4.t (aQ.t (bc.t aT))))))))))))))).raw (ck.ext aT).raw (b6.ext aT).raw xq xq) ?_
  rintro _ cE c0 ⟨c3,cH,rfl,cb,cf⟩
  refine zzg 62 157 _ fun _ _ bj cn=>qym (k_wide (k:=k) cn (cb.ext bj).raw (cf.ext bj).raw xq xq) ?_
  rintro _ c7 dp ⟨aF,aA,rfl,bH,bM⟩
  refine zzj ⟨57,aF.cs++aA.cs⟩ ty57 ?_
  refine zzb (zzo (zzw (zyu (zzw (zyt (zyu (ret0 [.agg #[.bool aF.s,aF.m.v,aF.d.v,.bool aA.s,aA.m.v,aA.d.v]] ⟨zzr ty57 zze,trivial⟩ fun cV bh=>?_)))))))
  have hle:b≤((2*j+1:Nat):Int):=by have h9:=al;rw[show (((1:Int):Rat) / (((2^k:Nat):Int):Rat))=Nt.gr k 1 from rfl,at_end xq] at h9;exact qyt h9
  have ho:=hI.out xq hle
  have hob:=atR_bd ho xq
  refine ⟨aF,aA,_,_,rfl,RatN.limG (z:=(cc - cdiv b ((2*j+1:Nat):Int))) (K:=((40+(40+3+1)+2)+70)) ?_ xq xq hk,RatN.limG (z:=(dd+cdiv b ((2*j+1:Nat):Int))) (K:=((40+(40+3+1)+2)+70)) ?_ xq xq hk,ho⟩
  ·have h9:=(bH.ext bh)
   rw[(at_o xq hcd xq).1] at h9
   exact h9
  have h9:=(bM.ext bh)
  rw[(at_o xq hcd xq).2] at h9
  exact h9
 have qhb132:=qyf al
 refine zzs (zzp ?_)
 refine zzd (sq9 (zza 63 (zI j) (zza 64 (zI (Int.tmod (j:Int) 2)) (zza 65 (zB ((Int.tmod (j:Int) 2)==0)) (zzb (zzu (b:=(Int.tmod (j:Int) 2)==0) xj (fun aD=>?_) (fun aD=>?_)))))))
 ·have ay:Int.tmod (j:Int) 2=(j:Int)%2:=Int.tmod_eq_emod_of_nonneg xq
  have an :  j%2=0:=by have h9:=aD;rw[ay] at h9;simp at h9;omega
  refine zzf (zzi 66 (.v (.agg #[.bool y1.s,y1.m.v,y1.d.v,.bool y2.s,y2.m.v,y2.d.v])) ty57 zze (zzi 67 (.v (.agg #[.bool ar.s,ar.m.v,ar.d.v,.bool ak.s,ak.m.v,ak.d.v])) ty57 zze (zzg 68 159 _ fun _ _ am bI=>qym (k_r4Add bI (f2.ext (ao.t (ah.t (ag.t (af.t (ad.t (ai.t (ae.t (aj.t (aa.t (ac.t am))))))))))).raw (f3.ext (ao.t (ah.t (ag.t (af.t (ad.t (ai.t (ae.t (aj.t (aa.t (ac.t am))))))))))).raw (aY.ext (aa.t (ac.t am))).raw (aq.ext (aa.t (ac.t am))).raw xq xq) ?_)))
  rintro _ dq aG ⟨aM,aO,rfl,ct,bR⟩
  refine zzj ⟨57,aM.cs++aO.cs⟩ ty57 ?_
  refine zzb (sq9 (zzi 72 (.v (.agg #[.bool aM.s,aM.m.v,aM.d.v,.bool aO.s,aO.m.v,aO.d.v])) ty57 zze (zza 73 (zI k) (zzg 74 157 _ fun _ _ aw bF=>qym (k_wide (k:=k) bF (ct.ext aw).raw (bR.ext aw).raw xq xq) ?_))))
  rintro _ br aH ⟨a7,a5,rfl,b2,bE⟩
  refine zzj ⟨57,a7.cs++a5.cs⟩ ty57 ?_
  refine zzb ?_
  have bi:RatN br a7 (Nt.gr k (cc+a / ((2*j+1:Nat):Int))) ((40+(40+3+1)+2)+70):=zRc b2 (by rw[(at_a (D:=((2*j+1:Nat):Int)) hab hcd xq).1])
  have bq:RatN br a5 (Nt.gr k (dd+cdiv b ((2*j+1:Nat):Int))) ((40+(40+3+1)+2)+70):=zRc bE (by rw[(at_a (D:=((2*j+1:Nat):Int)) hab hcd xq).2])
  refine zzf (zzi 75 (.v (.agg #[.bool x1.s,x1.m.v,x1.d.v,.bool x2.s,x2.m.v,x2.d.v])) ty57 zze (zzi 76 (.v (.agg #[.bool aK.s,aK.m.v,aK.d.v,.bool aL.s,aL.m.v,aL.d.v])) ty57 zze (zzg 77 103 _ fun _ _ av bC=>qym (k_r4Mul bC (f0.ext (ao.t (ah.t (ag.t (af.t (ad.t (ai.t (ae.t (aj.t (aa.t (ac.t (am.t (aG.t (aw.t (aH.t av))))))))))))))).raw (f1.ext (ao.t (ah.t (ag.t (af.t (ad.t (ai.t (ae.t (aj.t (aa.t (ac.t (am.t (aG.t (aw.t (aH.t av))))))))))))))).raw (cy.ext (aV.t (aW.t (aN.t (aU.t (aJ.t (aX.t (a1.t (ao.t (ah.t (ag.t (af.t (ad.t (ai.t (ae.t (aj.t (aa.t (ac.t (am.t (aG.t (aw.t (aH.t av)))))))))))))))))))))).raw (cC.ext (aV.t (aW.t (aN.t (aU.t (aJ.t (aX.t (a1.t (ao.t (ah.t (ag.t (af.t (ad.t (ai.t (ae.t (aj.t (aa.t (ac.t (am.t (aG.t (aw.t (aH.t av)))))))))))))))))))))).raw xq xq) ?_)))
  rintro _ ds a8 ⟨dw,cT,rfl,bV,bW⟩
  refine zza 78 (zI k) (zzg 79 157 _ fun _ _ aI bT=>qym (k_wide (k:=k) bT (bV.ext aI).raw (bW.ext aI).raw xq xq) ?_)
  rintro _ c8 a3 ⟨bn,bl,rfl,bQ,cg⟩
  refine zzj ⟨57,bn.cs++bl.cs⟩ ty57 ?_
  refine zzx ?_
  refine zzp (zzf (zza 35 (zI j) (qwi 36 ((j:Int)+1) (j+1:Nat) xz (zza 9 (zI (j+1:Nat)) (zzx ?_)))))
  have hlt:((2*j+1:Nat):Int)<b:=by have h9:=al;rw[show (((1:Int):Rat) / (((2^k:Nat):Int):Rat))=Nt.gr k 1 from rfl,at_end xq] at h9;have h8:=qyf h9;omega
  have hgo:=hI.go hn hlt (.inl ⟨an,rfl,rfl⟩)
  have hb9:=hgo.1.bd xq
  have ha9:=hgo.1.ab
  have hc9:=hgo.1.cd
  have h09:=hgo.1.p0
  have hm9:=hgo.2
  refine ⟨_,?_,_,by exact zzv _ _ _,j+1,bn,bl,a7,a5,(a / ((n*n:Nat):Int)),(cdiv b ((n*n:Nat):Int)),(cc+a / ((2*j+1:Nat):Int)),(dd+cdiv b ((2*j+1:Nat):Int)),rfl,hgo.1,rfl,(a1.t (ao.t (ah.t (ag.t (af.t (ad.t (ai.t (ae.t (aj.t (aa.t (ac.t (am.t (aG.t (aw.t (aH.t (av.t (a8.t (aI.t a3.ext)))))))))))))))))),(RatN.limG (by have h9:=bQ;rw[show (((1:Int):Rat) / ((((n*n:Nat):Int)):Rat))=fr1 ((n*n:Nat):Int) from rfl,(at_x hab xq).1] at h9;exact h9) xq xq hk),(RatN.limG (by have h9:=cg;rw[show (((1:Int):Rat) / ((((n*n:Nat):Int)):Rat))=fr1 ((n*n:Nat):Int) from rfl,(at_x hab xq).2] at h9;exact h9) xq xq hk),(RatN.limG (bi.ext (av.t (a8.t (aI.t a3.ext)))) xq xq hk),(RatN.limG (bq.ext (av.t (a8.t (aI.t a3.ext)))) xq xq hk)⟩
  omega
 have ay:Int.tmod (j:Int) 2=(j:Int)%2:=Int.tmod_eq_emod_of_nonneg xq
 have an:¬j%2=0:=by have h9:=aD;rw[ay] at h9;simp at h9;omega
 refine zzf (zzi 69 (.v (.agg #[.bool y1.s,y1.m.v,y1.d.v,.bool y2.s,y2.m.v,y2.d.v])) ty57 zze (zzi 70 (.v (.agg #[.bool ar.s,ar.m.v,ar.d.v,.bool ak.s,ak.m.v,ak.d.v])) ty57 zze (zzg 71 160 _ fun _ _ ap cj=>qym (k_r4Sub cj (f2.ext (ao.t (ah.t (ag.t (af.t (ad.t (ai.t (ae.t (aj.t (aa.t (ac.t ap))))))))))).raw (f3.ext (ao.t (ah.t (ag.t (af.t (ad.t (ai.t (ae.t (aj.t (aa.t (ac.t ap))))))))))).raw (aY.ext (aa.t (ac.t ap))).raw (aq.ext (aa.t (ac.t ap))).raw xq xq) ?_)))
 rintro _ cG aC ⟨aS,aP,rfl,bP,b8⟩
 refine zzj ⟨57,aS.cs++aP.cs⟩ ty57 ?_
 refine zzb (sq9 (zzi 72 (.v (.agg #[.bool aS.s,aS.m.v,aS.d.v,.bool aP.s,aP.m.v,aP.d.v])) ty57 zze (zza 73 (zI k) (zzg 74 157 _ fun _ _ au bX=>qym (k_wide (k:=k) bX (bP.ext au).raw (b8.ext au).raw xq xq) ?_))))
 rintro _ bb aB ⟨a0,aZ,rfl,cm,b9⟩
 refine zzj ⟨57,a0.cs++aZ.cs⟩ ty57 ?_
 refine zzb ?_
 have ba:RatN bb a0 (Nt.gr k (cc - cdiv b ((2*j+1:Nat):Int))) ((40+(40+3+1)+2)+70):=zRc cm (by rw[(at_s (D:=((2*j+1:Nat):Int)) hab hcd xq).1])
 have bf:RatN bb aZ (Nt.gr k (dd - a / ((2*j+1:Nat):Int))) ((40+(40+3+1)+2)+70):=zRc b9 (by rw[(at_s (D:=((2*j+1:Nat):Int)) hab hcd xq).2])
 refine zzf (zzi 75 (.v (.agg #[.bool x1.s,x1.m.v,x1.d.v,.bool x2.s,x2.m.v,x2.d.v])) ty57 zze (zzi 76 (.v (.agg #[.bool aK.s,aK.m.v,aK.d.v,.bool aL.s,aL.m.v,aL.d.v])) ty57 zze (zzg 77 103 _ fun _ _ ax bD=>qym (k_r4Mul bD (f0.ext (ao.t (ah.t (ag.t (af.t (ad.t (ai.t (ae.t (aj.t (aa.t (ac.t (ap.t (aC.t (au.t (aB.t ax))))))))))))))).raw (f1.ext (ao.t (ah.t (ag.t (af.t (ad.t (ai.t (ae.t (aj.t (aa.t (ac.t (ap.t (aC.t (au.t (aB.t ax))))))))))))))).raw (cy.ext (aV.t (aW.t (aN.t (aU.t (aJ.t (aX.t (a1.t (ao.t (ah.t (ag.t (af.t (ad.t (ai.t (ae.t (aj.t (aa.t (ac.t (ap.t (aC.t (au.t (aB.t ax)))))))))))))))))))))).raw (cC.ext (aV.t (aW.t (aN.t (aU.t (aJ.t (aX.t (a1.t (ao.t (ah.t (ag.t (af.t (ad.t (ai.t (ae.t (aj.t (aa.t (ac.t (ap.t (aC.t (au.t (aB.t ax)))))))))))))))))))))).raw xq xq) ?_)))
 rintro _ cQ a6 ⟨cR,dy,rfl,cu,ce⟩
 refine zza 78 (zI k) (zzg 79 157 _ fun _ _ aE bN=>qym (k_wide (k:=k) bN (cu.ext aE).raw (ce.ext aE).raw xq xq) ?_)
 rintro _ cW a2 ⟨bk,bo,rfl,b5,ci⟩
 refine zzj ⟨57,bk.cs++bo.cs⟩ ty57 ?_
 refine zzx ?_
 refine zzp (zzf (zza 35 (zI j) (qwi 36 ((j:Int)+1) (j+1:Nat) xz (zza 9 (zI (j+1:Nat)) (zzx ?_)))))
 have hlt:((2*j+1:Nat):Int)<b:=by have h9:=al;rw[show (((1:Int):Rat) / (((2^k:Nat):Int):Rat))=Nt.gr k 1 from rfl,at_end xq] at h9;have h8:=qyf h9;omega
 have hgo:=hI.go hn hlt (.inr ⟨an,rfl,rfl⟩)
 have hb9:=hgo.1.bd xq
 have ha9:=hgo.1.ab
 have hc9:=hgo.1.cd
 have h09:=hgo.1.p0
 have hm9:=hgo.2
 refine ⟨_,?_,_,by exact zzv _ _ _,j+1,bk,bo,a0,aZ,(a / ((n*n:Nat):Int)),(cdiv b ((n*n:Nat):Int)),(cc - cdiv b ((2*j+1:Nat):Int)),(dd - a / ((2*j+1:Nat):Int)),rfl,hgo.1,rfl,(a1.t (ao.t (ah.t (ag.t (af.t (ad.t (ai.t (ae.t (aj.t (aa.t (ac.t (ap.t (aC.t (au.t (aB.t (ax.t (a6.t (aE.t a2.ext)))))))))))))))))),(RatN.limG (by have h9:=b5;rw[show (((1:Int):Rat) / ((((n*n:Nat):Int)):Rat))=fr1 ((n*n:Nat):Int) from rfl,(at_x hab xq).1] at h9;exact h9) xq xq hk),(RatN.limG (by have h9:=ci;rw[show (((1:Int):Rat) / ((((n*n:Nat):Int)):Rat))=fr1 ((n*n:Nat):Int) from rfl,(at_x hab xq).2] at h9;exact h9) xq xq hk),(RatN.limG (ba.ext (ax.t (a6.t (aE.t a2.ext)))) xq xq hk),(RatN.limG (bf.ext (ax.t (a6.t (aE.t a2.ext)))) xq xq hk)⟩
 omega
end Go.Proofs.YtedobdigeeflcaaGreat

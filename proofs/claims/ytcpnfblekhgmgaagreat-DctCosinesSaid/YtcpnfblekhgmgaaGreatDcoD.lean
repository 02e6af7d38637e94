/- Parts of the proof: contracts of functions, each walked once, and plain laws. -/
import Derived.Test.YtcpnfblekhgmgaaGreatDcoC
import Derived.ArgAppend
import Derived.Test.YtcpnfblekhgmgaaGreatProg
import Derived.KernelRfl
set_option linter.unusedVariables false
set_option maxHeartbeats 8000000
namespace Go.Proofs.YtcpnfblekhgmgaaGreat
open Nt
open Go.RowKit
structure WL where
 b:Int
 f:Int
 r:Int
 o:Int
@[reducible] def WL.v(w:WL):Value:=.agg #[.int .i64 w.b,.int .i64 w.f,.int .i64 w.r,.int .i64 w.o]
def WL.cs(w:WL):List Value:=[.int .i64 w.b,.int .i64 w.f,.int .i64 w.r,.int .i64 w.o]
def WdOK(w:WL):Prop:=4≤w.b∧w.b≤24∧0≤w.f∧w.f<w.b∧1≤w.r∧w.r≤3∧1≤w.o∧w.o≤2
namespace Nt
def p2i(n:Int):Int:=2^n.toNat
theorem zxo(n:Int):0<p2i n:=Int.pow_pos xw
theorem zwd{a b:Int}(h:a≤b):p2i a≤p2i b:=by
 unfold p2i
 have h1:2^a.toNat≤2^b.toNat:=Nat.pow_le_pow_right xw xq;have h2:((2^a.toNat:Nat):Int)≤((2^b.toNat:Nat):Int):=Int.ofNat_le.2 h1
 simpa using h2
theorem p2i_24{n:Int}(h:n≤24):p2i n≤16777216:=zwd (b:=24) h
end Nt
section
variable {P:Program} {w0:Base} {u0 u w:World} {S:St} {ops:Array Oper} {o:Oper} {p:List Tmp} {seq:Bool} {rest:List (Oper×List Tmp)} {K:St→World→Prop}
theorem run_shl{T:TypeId}{k yk:IntKind}{n s:Int}{x y:Operand}(h0:0≤s)(h1:s≤k.bits):(do eqGuard .shl T x y (.int k n) (.int yk s);binOp .shl T (.int k n) (.int yk s):Sem Value).run P w=.ok (.int k (k.wrap (n*2^s.toNat))) w:=by
 simp[eqGuard,binOp,shift_shl k yk n s h0 h1,go_sem]
theorem sy_shl(d:Tmp){T T2:TypeId}{x y:Operand}{k yk:IntKind}{n s:Int}(v:Int)(h0:0≤s)(h1:s≤k.bits)(hv:k.wrap (n*2^s.toNat)=v)(kk:sym P ops w0 u0 seq rest (S.set d (.v (.int k v))) u K)(hw:Wants ops o S:=by exact zwf xj)(hd:o.dst=some d:=by kernel_rfl)(hop:o.op=.binOp .shl T x y T2:=by rfl)(hf:freeB S d=true:=by kernel_rfl)
  (hx:evO S x=some (.v (.int k n)):=by rfl) (hy:evO S y=some (.v (.int yk s)):=by rfl):sym P ops w0 u0 seq ((o,p)::rest) S u K:=by
 subst hv;refine .inl ⟨by rw[hop];exact(by decide:(0:Nat)≠2),.set (.v (.int k (k.wrap (n*2^s.toNat)))),⟨zxx hd hf,.inl ⟨(fun t ht=>by cases ht),fun B a w u' hr he hdt=>⟨hw B a hr,?_⟩⟩⟩,?_⟩
 ·have e1:(execOp a.eval o).run P w=(do pure (Next.value (←(do eqGuard .shl T x y (a.eval x) (a.eval y);binOp .shl T (a.eval x) (a.eval y)))):Sem Next).run P w:=by unfold execOp;rw[hop]
  rw[e1,ev_eval hr hx,ev_eval hr hy];exact run_val (run_shl h0 h1)
 show sym P ops w0 u0 seq rest (S.put o.dst (some _)) u K;rw[hd];exact kk
end
theorem shl_one{n:Int}(h0:0≤n)(h1:n≤24):IntKind.i64.wrap (1*2^n.toNat)=p2i n:=by
 have h2:=p2i_24 h1;have h3:=zxo n;rw[Int.one_mul];exact IntWalk.i64_in _ (by unfold p2i at *;omega)
theorem mod_pos9(m:Int)(hm:1≤m)(n:Int)(h:decide (Int.tmod n m<0)=false):Int.tmod n m=n%m:=by
 have h:=qyf h
 rcases Int.lt_or_le n 0 with hn|hn
 ·have e:=Int.tmod_add_mul_tdiv n m;have h2:-m<Int.tmod n m:=Int.lt_tmod_of_pos n xq
  have h3:Int.tmod n m≤0:=by
   have h8:=Int.neg_tmod n m;have h9:Int.tmod (-n) m=(-n)%m:=Int.tmod_eq_emod_of_nonneg xq;have h10:=Int.emod_nonneg (-n) (show m≠0 by omega)
   omega
  have h4:Int.tmod n m=0:=by omega
  rw[h4] at e ⊢;have:m∣n:=⟨n.tdiv m,by omega⟩
  exact(Int.emod_eq_zero_of_dvd this).symm
 exact Int.tmod_eq_emod_of_nonneg hn
theorem mod_neg9(m:Int)(hm:1≤m)(n:Int)(h:decide (Int.tmod n m<0)=true):Int.tmod n m+m=n%m:=by
 have h:=qyt h;have e:=Int.tmod_add_mul_tdiv n m;have h2:-m<Int.tmod n m:=Int.lt_tmod_of_pos n xq;have h5:n=m*(n.tdiv m-1)+(Int.tmod n m+m):=by rw[Int.mul_sub,Int.mul_one];omega
 have:=(ediv_uniq (z:=n) (y:=m) (q:=n.tdiv m-1) (r:=Int.tmod n m+m) xq h5 xq xq).2;exact this.symm
section
variable {P:Program} {ops:Array Oper} {w0:Base} {u0:World} {S:St} {u:World} {o:Oper} {p:List Tmp} {seq:Bool} {rest:List (Oper×List Tmp)} {K:St→World→Prop}
theorem run_shr{T:TypeId}{k yk:IntKind}{n s:Int}{x y:Operand}{w:World}(h0:0≤s)(h1:s≤k.bits):(do eqGuard .shr T x y (.int k n) (.int yk s);binOp .shr T (.int k n) (.int yk s):Sem Value).run P w=.ok (.int k (n/2^s.toNat)) w:=by
 simp[eqGuard,binOp,shift_shr k yk n s h0 h1,go_sem]
theorem sy_shr(d:Tmp){T T2:TypeId}{x y:Operand}{k yk:IntKind}{n s:Int}(v:Int)(h0:0≤s)(h1:s≤k.bits)(hv:n/2^s.toNat=v)(kk:sym P ops w0 u0 seq rest (S.set d (.v (.int k v))) u K)(hw:Wants ops o S:=by exact zwf xj)(hd:o.dst=some d:=by kernel_rfl)(hop:o.op=.binOp .shr T x y T2:=by rfl)(hf:freeB S d=true:=by kernel_rfl)
  (hx:evO S x=some (.v (.int k n)):=by rfl) (hy:evO S y=some (.v (.int yk s)):=by rfl):sym P ops w0 u0 seq ((o,p)::rest) S u K:=by
 subst hv;refine .inl ⟨by rw[hop];exact(by decide:(0:Nat)≠2),.set (.v (.int k (n/2^s.toNat))),⟨zxx hd hf,.inl ⟨(fun t ht=>by cases ht),fun B a w u' hr he hdt=>⟨hw B a hr,?_⟩⟩⟩,?_⟩
 ·have e1:(execOp a.eval o).run P w=(do pure (Next.value (←(do eqGuard .shr T x y (a.eval x) (a.eval y);binOp .shr T (a.eval x) (a.eval y)))):Sem Next).run P w:=by unfold execOp;rw[hop]
  rw[e1,ev_eval hr hx,ev_eval hr hy];exact run_val (run_shr h0 h1)
 show sym P ops w0 u0 seq rest (S.put o.dst (some _)) u K;rw[hd];exact kk
end
namespace Nt
theorem shl_one9{n:Int}(h0:0≤n)(h1:n≤62):IntKind.i64.wrap (1*2^n.toNat)=Nt.p2i n:=by
 have h2:Nt.p2i n≤4611686018427387904:=Nt.zwd (b:=62) h1;have h3:=Nt.zxo n;rw[Int.one_mul];exact IntWalk.i64_in _ (by unfold Nt.p2i at *;omega)
theorem bits_mod(n:Int)(k:Nat)(hk:k≤62):bits .and .i64 n (2^k-1)=n%2^k:=by
 have hp:0<2^k:=Nat.two_pow_pos k;have hle:2^k≤2^62:=Nat.pow_le_pow_right xw hk
 have hm:(BitVec.ofInt 64 (2^k-1)).toNat=2^k-1:=by
  have e:((2:Int)^k-1)=((2^k-1:Nat):Int):=by rw[Int.natCast_sub hp];simp
  rw[e,BitVec.ofInt_natCast,BitVec.toNat_ofNat];exact Nat.mod_eq_of_lt xq
 have key:(BitVec.ofInt 64 n &&& BitVec.ofInt 64 (2^k-1)).toNat=(n%((2^64:Nat):Int)).toNat%2^k:=by
  rw[BitVec.toNat_and,BitVec.toNat_ofInt,hm,Nat.and_two_pow_sub_one_eq_mod]
 show IntKind.i64.wrap ((BitVec.ofInt 64 n &&& BitVec.ofInt 64 (2^k-1)).toNat:Nat)=n%2^k;rw[key];have hd:((2^k:Nat):Int)∣((2^64:Nat):Int):=Int.natCast_dvd_natCast.2 (Nat.pow_dvd_pow 2 xq)
 have e1:(((n%((2^64:Nat):Int)).toNat%2^k:Nat):Int)=n%2^k:=by
  rw[Int.natCast_emod,Int.toNat_of_nonneg (Int.emod_nonneg _ xw),Int.emod_emod_of_dvd _ hd];simp
 have hlt:(n%((2^64:Nat):Int)).toNat%2^k<2^k:=Nat.mod_lt _ hp;rw[IntWalk.i64_in _ xq,e1]
theorem bits_p2{n b:Int}(h0:0≤b)(h1:b≤62):bits .and .i64 n (p2i b-1)=n%p2i b:=bits_mod n b.toNat xq
theorem bits_1(n:Int):bits .and .i64 n 1=n%2:=bits_mod n 1 xw
def shiftW(v n r:Int):Int:=if n=0 then v else if r=2 then v/p2i n+v/p2i (n-1)%2 else if r=3∧v<0∧v%p2i n≠0 then v/p2i n+1 else v/p2i n
def wrapW(b v:Int):Int:=if p2i (b-1)≤v%p2i b then v%p2i b-p2i b else v%p2i b
theorem div_bd{v p:Int}(hp:0<p):-v.natAbs≤v/p∧v/p≤v.natAbs:=by
 constructor
 ·rw[Int.le_ediv_iff_mul_le hp];have:(-(v.natAbs:Int))*p≤(-(v.natAbs:Int))*1:=Int.mul_le_mul_of_nonpos_left xq xq
  omega
 by_cases h:0≤v
 ·have:=Int.ediv_le_self p h;omega
 have:=Int.ediv_neg_of_neg_of_pos (show v<0 by omega) hp;omega
end Nt
section
variable {P:Program} {ops:Array Oper} {w0:Base} {u0:World} {S T:St} {B:Tmp→Nat} {a:Act} {w w' u u':World} {o:Oper} {p:List Tmp} {seq:Bool} {rest:List (Oper×List Tmp)} {K:St→World→Prop}
theorem Rep.pubA(h:Rep w0 u0 S B a w u){r t:Tmp}{V:Vr}{pubs:List Tmp}(hno:NoAt S pubs)(ht:t∈pubs)(hall:∀s∈pubs,∀V',S.var s=some V'→s=t)(hr:S.reg r=some (.adr t 0))(hv:S.var t=some V)(htn:t<S.n):
  Rep w0 u0 ((S.unpub pubs).set r (.v (.pointer (some ⟨B t,0,none⟩)))) B a w (pubW u w [B t]):=by
 refine⟨⟨fun s x hx=>?_,h.regs.size⟩,⟨fun s x t' hx ht'=>?_⟩,h.defers,fun s V' hV=>?_,fun s s' V1 V2 h1 h2 e=>?_,pubW_dat h.dat,h.base,pubW_grow h.grow (fun b hb=>?_),h.bel⟩
 ·by_cases e:s=r
  ·subst e
   simp only[St.set,zxb] at hx
   injection hx with hx
   subst hx;exact h.regs.reg s (.adr t 0) hr
  simp only[St.set,upd_ne _ _ e] at hx
  exact h.regs.reg s x (zwe hx).1
 ·by_cases e:s=r
  ·subst e
   simp only[St.set,zxb] at hx
   injection hx with hx
   subst hx;cases ht'
  simp only[St.set,upd_ne _ _ e] at hx
  obtain⟨k1,k2⟩:=zwe hx;obtain⟨V',hV'⟩:=h.wf.reg s x t' k1 ht';exact⟨V',by show(S.unpub pubs).var t'=_;rw[unpub_var (fun hm=>k2 (hno s x t' k1 ht' hm))];exact hV'⟩
 ·obtain⟨k1,k2⟩:=zxn hV;obtain⟨g1,g2,g3⟩:=h.var s V' k1;refine⟨g1,?_,g3⟩;rw[pubW_out]
  ·exact g2
  intro hm
  simp at hm
  exact k2 (h.inj s t V' V k1 hv hm ▸ ht)
 ·exact h.inj s s' V1 V2 (zxn h1).1 (zxn h2).1 e
 simp at hb;subst hb;exact(h.var t V hv).2.2.1 htn
theorem sw_pubA{c0:Code}{Q:MP}{r t:Tmp}{V:Vr}(pubs:List Tmp)(hno:NoAt S pubs)(hall:(pubs.all fun s=>Nat.beq s t||(S.var s).isNone)=true)(hr:S.reg r=some (.adr t 0))(hv:S.var t=some V)(ht:pubs.contains t=true)
  (k:∀b u1,Ext u u1→u0.heap.size≤b→(∀ob,u.heap[b]? = some ob→ob=hidO)→u1.heap[b]? = some (.cells V.cs.toArray V.ty (0,0))→SW P w0 u0 c0 ((S.unpub pubs).set r (.v (.pointer (some ⟨b,0,none⟩)))) u1 Q) (hlt:Nat.blt t S.n=true:=by kernel_rfl):SW P w0 u0 c0 S u Q:=by
 intro B a w u' e hrep;have hm:=List.contains_iff_mem.1 ht;obtain⟨g1,g2,g3⟩:=hrep.var t V hv;have hx:Ext u' (pubW u' w [B t]):=pubW_ext hrep.dat
 have hrep2:=hrep.pubA hno hm (fun s hs V' hV'=>by
  have:=List.all_eq_true.1 hall s hs
  simp only[Bool.or_eq_true,Option.isNone_iff_eq_none] at this
  rcases this with h|h
  ·exact Nat.eq_of_beq_eq_true h
  rw[hV'] at h;cases h) hr hv (Nat.le_of_ble_eq_true hlt)
 refine k (B t) (pubW u' w [B t]) (e.trans hx) (g3.1 (Nat.le_of_ble_eq_true hlt)) (fun ob hob=>?_) (by rw[pubW_in (by simp) (zyz g2) hrep.dat.size];exact g1) B a w _ (Ext.refl _) hrep2
 by_cases hh:ob=hidO
 ·exact hh
 have:=e.vis _ ob hob hh;rw[g2] at this;injection this with this;exact this.symm
theorem sy_fun(d:Tmp){f:FuncId}{cs:List Operand}(vs:List Value)(k:sym P ops w0 u0 true rest (S.set d (.v (.func (.func f) #[] vs.toArray))) u K)(hw:Wants ops o S:=by exact zwf xj)(hd:o.dst=some d:=by kernel_rfl)(hop:o.op=.makeFunc (.func f) #[] cs.toArray:=by rfl)(hf:freeB S d=true:=by kernel_rfl)
  (hev:cs.map (evO S)=vs.map (fun v=>some (.v v)):=by rfl):sym P ops w0 u0 true ((o,p)::rest) S u K:=by
 refine .inr (.inr (.inl ⟨.inl rfl,fun B a w u' he hrep=>⟨hw B a hrep.regs,?_⟩⟩))
 have hcs:cs.map a.eval=vs:=by
  clear hop k
  induction cs generalizing vs with
  | nil=>cases vs with
   | nil=>rfl
   | cons v vs=>cases hev
  | cons c cs ih=>cases vs with
   | nil=>cases hev
   | cons v vs=>
    simp only[List.map_cons,List.cons.injEq] at hev ⊢
    refine⟨?_,ih vs hev.2⟩;rw[ev_of hrep.regs hev.1];rfl
 have hrun:(execOp a.eval o).run P w=.ok (.value (.func (.func f) #[] vs.toArray)) w:=by
  unfold execOp
  simp only[hop]
  simp[Instr.makeFunc,Sem.run_pure,←hcs]
 unfold Oper.wp
 rw[hrun];have hr2:=hrep.set (d:=o.dst) (x:=some (.v (.func (.func f) #[] vs.toArray))) (v:=.func (.func f) #[] vs.toArray) (fun s hs=>(zxx hd hf s hs).1) (fun z e=>by injection e with e;rw[←e];rfl) (fun z t e ht=>by injection e with e;rw[←e] at ht;cases ht);show ∃S' B' u'' u2,Rep w0 u0 S' B' (a.put o.dst _) w u''∧_;refine⟨_,B,u',u,hr2,fun _=>Ext.refl _,fun _=>Ext.refl _,he,?_⟩;rw[hd];exact k
def SL(P:Program)(w0:Base)(u0:World)(ops:Array Oper)(l:List Oper)(S:St)(u:World)(Q:MP):Prop:=
 ∀B a w u',Ext u u'→Rep w0 u0 S B a w u'→wpList P ops (fun e a' w'=>∃S' B' u'',Rep w0 u0 S' B' a' w' u''∧Q.f e S' u'') l a w
theorem sl_key{Q:Exit→Act→World→Prop}(hK:Mono K)(l2:List Oper)(hQ:∀S u,K S u→∀B a w,Rep w0 u0 S B a w u→wpList P ops Q l2 a w):
  ∀(l:List Oper) (S:St) (B:Tmp→Nat) (a:Act) (w u:World),Rep w0 u0 S B a w u→sym P ops w0 u0 true (l.map fun o=>(o,[])) S u K→wpList P ops Q (l++l2) a w:=by
 intro l
 induction l with
 | nil=>intro S B a w u hr h;exact hQ S u h B a w hr
 | cons o l ih=>
  intro S B a w u hr h;have hs:=one_sound (Q:=Q) (zwc hK) h (Ext.refl _) hr;refine wpList_step fun K' hK'=>?_
  have hfin:∀a' w',(∃S' B' u'',Rep w0 u0 S' B' a' w' u''∧(true=false→Ext u u'')∧sym P ops w0 u0 true (l.map fun o=>(o,[])) S' u'' K)→K' a' w':=by
   rintro a' w' ⟨S',B',u'',g1,_,g3⟩;exact hK' _ _ (ih S' B' a' w' u'' g1 g3)
  show if Region.wanted o (yielded ops a.tmps)=true then _ else _
  split
  ·rename_i hw
   rw[if_pos hw] at hs;exact Oper.wp_mono hfin hs
  rename_i hw
  rw[if_neg hw] at hs;exact hfin _ _ hs
end
section
variable {u u' u1:World} {L:List RL} {r:RL} {l:List Rat} {q:Rat} {K n b b6:Nat} {cs:List Value} {t t6:TypeId}
theorem var_cell1{v:Value}(h:u.heap[b]? = some (.cells [v].toArray t (0,0))):u.cell? ⟨b,0,none⟩=some v:=by rw[cells_at h];rfl
theorem SlR.extB0{A:Option Addr}{m c:Nat}{z:List Int}(h:SlR .u32 u A m c z)(hb:u.heap[b]? = some (.cells cs.toArray t (0,0)))(hn:∀v∈cs,∀y,v≠.int .u32 y)(e:ExtB b u u'):SlR .u32 u' A m c z:=by
 obtain⟨h1,h2,h3,h4⟩:=h;refine⟨h1,h2,h3,fun hp=>?_⟩;obtain⟨b',o,rfl,hlt,hc⟩:=h4 hp
 have hne:b'≠b:=by
  rintro rfl;have:=hc 0 hp;rw[cells_at hb] at this;have h9:cs[o+0]? = some (.int .u32 (z[0]?.getD 0)):=by simpa using this
  exact hn _ (List.mem_of_getElem? h9) _ rfl
 refine⟨b',o,rfl,Nat.lt_of_lt_of_le hlt e.size,fun i hi=>?_⟩;have:=hc i hi
 unfold World.cell? at this ⊢
 cases hb':u.heap[b']? with
 | none=>simp only[hb'] at this;cases this
 | some ob=>
  simp only[hb'] at this
  cases ob with
  | cells cs t' fr=>rw[e.vis b' _ hne hb' (by unfold hidO;exact fun e=>by cases e)];exact this
  | _=>cases this
theorem RatN.extB0(h:RatN u r q K)(hb:u.heap[b]? = some (.cells cs.toArray t (0,0)))(hn:∀v∈cs,∀y,v≠.int .u32 y)(e:ExtB b u u'):RatN u' r q K:=
 ⟨⟨h.1.1,h.1.2.1,h.1.2.2.1.extB0 hb hn e,h.1.2.2.2⟩,h.2.1,h.2.2.1.extB0 hb hn e,h.2.2.2⟩
end
def setW(u:World)(b:Nat)(ob:Obj):World:={ u with heap:=u.heap.setIfInBounds b ob }
structure ExtF(F:List Nat)(u u':World):Prop where
 size:u.heap.size≤u'.heap.size
 vis:∀(k:Nat) (o:Obj),k∉F→u.heap[k]? = some o→o≠hidO→u'.heap[k]? = some o
section
variable {P:Program} {ops:Array Oper} {w0:Base} {u0:World} {S T:St} {B:Tmp→Nat} {a:Act} {w w' u u' u'' v:World} {o:Oper} {p:List Tmp} {seq:Bool} {rest:List (Oper×List Tmp)} {K:St→World→Prop} {F:List Nat} {b:Nat} {ob:Obj}
theorem setW_size:(setW u b ob).heap.size=u.heap.size:=by simp[setW]
theorem setW_ne{k:Nat}(h:k≠b):(setW u b ob).heap[k]? = u.heap[k]? := by simp only[setW];rw[Array.getElem?_setIfInBounds_ne (Ne.symm h)]
theorem setW_eq(h:b<u.heap.size):(setW u b ob).heap[b]? = some ob:=by simp[setW,h]
theorem ExtF.pre{u2:World}(e:Ext u u')(h:ExtF F u' u2):ExtF F u u2:=⟨Nat.le_trans e.size h.size,fun k o hk ho hh=>h.vis k o hk (e.vis k o ho hh) hh⟩
theorem ExtF.toB(h:ExtF [b] u u'):ExtB b u u':=⟨h.size,fun k o hk ho hh=>h.vis k o (by simpa using hk) ho hh⟩
theorem GrowF.extF(h:GrowF F u u'):ExtF F u u':=⟨h.size,fun k o hk ho _=>(h.old k (zyz ho) hk).trans ho⟩
def MayB(w0:Base)(u0:World)(b:Nat):Prop:=u0.heap.size≤b∨b∈w0.free
theorem Rep.mut(h:Rep w0 u0 S B a w u)(hF:∀b∈F,MayB w0 u0 b∧∃ob,u.heap[b]? = some ob∧ob≠hidO)(hd:Dat u'' w')(hb:Bel ⟨w,none,F⟩ w')(hg:GrowF F u u''):Rep w0 u0 S B a w' u'':=by
 have hno:∀b∈F,b<u0.heap.size→b∈w0.free:=fun b hm hlt=>by
  rcases(hF b hm).1 with h1|h1
  ·omega
  exact h1
 refine⟨h.regs,h.wf,h.defers,fun t V hV=>?_,h.inj,hd,h.base,⟨Nat.le_trans h.grow.size hg.size,fun b hlt hf=>?_⟩,?_⟩
 ·obtain⟨v1,v2,v3⟩:=h.var t V hV
  have hn:B t∉F:=fun hm=>by
   obtain⟨_,ob,e1,e2⟩:=hF _ hm;rw[v2] at e1;injection e1 with e1;exact e2 e1.symm
  exact⟨by rw[hb.block _ (zyz v1) (fun t e=>by cases e) hn];exact v1,by rw[hg.old _ (zyz v2) hn];exact v2,v3⟩
 ·rw[hg.old b (Nat.lt_of_lt_of_le hlt h.grow.size) (fun hm=>hf (hno b hm hlt))];exact h.grow.old b hlt hf
 have hbs:=h.bel;refine⟨hb.os.trans hbs.os,hb.tape.trans hbs.tape,hb.output.trans hbs.output,Nat.le_trans hbs.size hb.size,fun k hk hl hf=>?_⟩;rw[hb.block k (Nat.lt_of_lt_of_le hk hbs.size) (fun t e=>by cases e) (fun hm=>hf (hno k hm (by rw[h.base];exact hk)))];exact hbs.block k hk hl hf
theorem setW_dat{cs:Array Value}{ty:TypeId}(h:Dat u w)(hw:w'.heap[b]? = some ob)(ho:OnlyB b w w'):Dat (setW u b ob) w':=by
 refine⟨by rw[setW_size,h.size,ho.size],fun k o hk hh=>?_⟩
 by_cases e:k=b
 ·subst e;have hlt:=zyz hk;rw[setW_size] at hlt;rw[setW_eq hlt] at hk;rw[hw];exact hk
 rw[setW_ne e] at hk;rw[ho.far k e];exact h.vis k o hk hh
theorem setW_growF:GrowF [b] u (setW u b ob):=⟨by rw[setW_size];exact Nat.le_refl _,fun k hk hf=>setW_ne (by simpa using hf)⟩
theorem onlyB_bel(h:OnlyB b w w'):Bel ⟨w,none,[b]⟩ w':=⟨h.os,h.tape,h.output,Nat.le_of_eq h.size.symm,fun k hk _ hf=>h.far k (by simpa using hf)⟩
theorem ev_any{z:Operand}{x:SV}(hr:RegOK S B a)(h:evO S z=some x):a.eval z=x.conc B:=ev_eval hr h
theorem sy_storeD{T:TypeId}{r:Tmp}{z:Operand}{v:Value}{agg:Bool}{n off:Nat}{cs:List Value}{ty:TypeId}(hub:u.heap[b]? = some (.cells cs.toArray ty (0,0)))(hb:MayB w0 u0 b)(hT:TyIs P T agg n)(hl:off+n≤cs.length)
  (k:∀u1,u1.heap[b]? = some (.cells (setL cs off v.cells.toList).toArray ty (0,0))→ExtB b u u1→sym P ops w0 u0 true rest S u1 K)
  (hw:Wants ops o S:=by exact zwf xj) (hd:o.dst=none:=by kernel_rfl) (hop:o.op=.store T (.tmp r) z:=by rfl) (hr:S.reg r=some (.v (.pointer (some ⟨b,off,none⟩))):=by rfl) (hz:evO S z=some (.v v):=by rfl)
  (hn:v.cells.size=n:=by kernel_rfl) (hone:v.cells.toList.all Value.oneCell'=true:=by kernel_rfl):sym P ops w0 u0 true ((o,p)::rest) S u K:=by
 refine .inr (.inr (.inl ⟨.inl rfl,fun B a w u' he hrep=>⟨hw B a hrep.regs,?_⟩⟩));have hub':=he.cells hub;have hwb:=hrep.dat.ext.cells hub';obtain⟨w',k1,k2,k3⟩:=run_storeCells (P:=P) (b:=b) (ty:=ty) (base:=off) v.cells.toList 0 w cs hwb yw (List.all_eq_true.1 hone);have hev:a.eval (.tmp r)=.pointer (some ⟨b,off,none⟩):=hrep.regs.eval hr;have hez:a.eval z=v:=ev_any hrep.regs hz
 have e2:(Instr.storeAt T (.pointer (some ⟨b,off,none⟩)) v).run P w=.ok () w':=by
  have e3:(Instr.storeAt T (.pointer (some ⟨b,off,none⟩)) v).run P w=(storeVar T ⟨b,off,none⟩ v).run P w:=rfl;rw[e3]
  unfold storeVar
  rw[run_bind_ok (hT w).2,if_neg (by simp[hn])];exact k1
 have e1:(execOp a.eval o).run P w=.ok .skip w':=by
  have e4:(execOp a.eval o).run P w=(do Instr.storeAt T (a.eval (.tmp r)) (a.eval z);pure Next.skip:Sem Next).run P w:=by
   unfold execOp;rw[hop]
  rw[e4,hev,hez,run_bind_ok e2]
  rfl
 unfold Oper.wp
 rw[e1]
 simp only[Nat.add_zero] at k2
 have hlt:=zyz hub';have hdat:Dat (setW u' b (.cells (setL cs off v.cells.toList).toArray ty (0,0))) w':=setW_dat (cs:=#[]) (ty:=0) hrep.dat k2 k3;have hr2:=hrep.mut (F:=[b]) (fun b' hm=>by simp at hm;subst hm;exact⟨hb,_,hub',by unfold hidO;intro e;cases e⟩) hdat (onlyB_bel k3) setW_growF;refine⟨S,B,_,_,?_,(fun e=>by cases e),(fun e=>by cases e),Ext.refl _,k _ (setW_eq hlt) (ExtF.toB (.pre he setW_growF.extF))⟩;rw[hd];exact hr2
def grownW(u w':World)(b g:Nat)(ob:Obj):World:=setW (setW (hide u w') b hidO) g ob
theorem grownW_size{g:Nat}(h:u.heap.size≤w'.heap.size):(grownW u w' b g ob).heap.size=w'.heap.size:=by unfold grownW;rw[setW_size,setW_size,zwq h]
theorem sy_dataN(d:Tmp)(V:Vr)(n:Nat)(k:∀b u1,Ext u u1→u1.heap[b]? = some (.cells V.cs.toArray V.ty (0,0))→u0.heap.size≤b→u.heap.size≤b→sym P ops w0 u0 false rest (S.set d (.v (.slice (some ⟨b,0,none⟩) n n))) u1 K)(hp:p≠[]:=by exact List.cons_ne_nil _ _)
  (hw:Wants ops o S:=by exact zwf xj) (hd:o.dst=some d:=by kernel_rfl) (hk:opK o.op≠2:=by decide) (hf:(freeB S d&&knownB S o)=true:=by kernel_rfl) (hv:S.var d=none:=by kernel_rfl)
  (hrun:∀B w,(execOp (rho S B) o).run P w=.ok (.value (.slice (some ⟨w.heap.size,0,none⟩) n n)) (w.alloc (.cells V.cs.toArray V.ty)):=by intro _ _;kernel_rfl):sym P ops w0 u0 false ((o,p)::rest) S u K:=by
 simp only[Bool.and_eq_true] at hf
 refine .inr (.inr (.inr (.inr ⟨rfl,hp,hk,V,n,⟨zxx hd hf.1,d,hd,hv,fun B a w hr=>⟨hw B a hr,?_⟩⟩,fun b u1 e1 b1 b2 b3=>?_⟩)))
 ·rw[exec_rho hr hf.2 hk];exact hrun B w
 rw[hd];exact k b u1 e1 b1 b2 b3
theorem sy_makeF(d:Tmp){T E:TypeId}{x y:Operand}{z:Value}{size bytes:Nat}{k1 k2:IntKind}{i j:Int}(n:Nat)(cs:List Value)(hT:P.underlying T=some (.slice E))(hi:(P.info? E).map (fun i=>(i.zero,i.size,i.bytes))=some (some z,size,bytes))(hn:i=n)(hn2:j=n)(hb:bytes*n≤281474976710656)(h63:n≤maxLen)(hcs:(madeCells z.cells (n*size)).toList=cs)
  (k:∀b u1,Ext u u1→u1.heap[b]? = some (.cells cs.toArray E (0,0))→u0.heap.size≤b→u.heap.size≤b→sym P ops w0 u0 true rest (S.set d (.v (.slice (some ⟨b,0,none⟩) n n))) u1 K)
  (hw:Wants ops o S:=by exact zwf xj) (hd:o.dst=some d:=by kernel_rfl) (hop:o.op=.makeSlice T x y:=by rfl) (hf:freeB S d=true:=by kernel_rfl)
  (hx:evO S x=some (.v (.int k1 i)):=by rfl) (hy:evO S y=some (.v (.int k2 j)):=by rfl):sym P ops w0 u0 true ((o,p)::rest) S u K:=by
 subst hcs hn hn2;refine .inr (.inr (.inl ⟨.inl rfl,fun B a w u' he hrep=>⟨hw B a hrep.regs,?_⟩⟩));have hrun:=makes (P:=P) (w:=w) n hT hi hb h63 hop hx hy hrep.regs
 unfold Oper.wp
 rw[hrun];have hs:u'.heap.size=w.heap.size:=hrep.dat.size;have hv:=(hrep.vis (.cells (madeCells z.cells (n*size)) E)).set (d:=some d) (x:=some (.v (.slice (some ⟨w.heap.size,0,none⟩) n n))) (v:=.slice (some ⟨w.heap.size,0,none⟩) n n) (fun t e=>by injection e with e;subst e;exact(zxx hd hf d hd).1) (fun z e=>by injection e with e;rw[←e];rfl) (fun z t e ht=>by injection e with e;rw[←e] at ht;cases ht);refine⟨S.set d (.v (.slice (some ⟨w.heap.size,0,none⟩) n n)),B,u'.alloc (.cells (madeCells z.cells (n*size)) E),u'.alloc (.cells (madeCells z.cells (n*size)) E),?_,(fun e=>by cases e),(fun e=>by cases e),Ext.refl _,k _ _ (he.trans (zxt _ _).ext) (by rw[←hs];simpa using zxq u' (.cells (madeCells z.cells (n*size)) E)) (by rw[←hs];exact hrep.grow.size) (by rw[←hs];exact he.size)⟩;rw[hd];exact hv
theorem zc_mem{z:Array Value}{n:Nat}{v:Value}(hz:0<z.size)(h:v∈(Builtin.zeroCells z n).toList):v∈z.toList:=by
 unfold Builtin.zeroCells at h
 rw[Array.toList_map,List.mem_map] at h;obtain⟨i,_,rfl⟩:=h;have hi:=Nat.mod_lt i hz;rw[getElem!_pos z (i%z.size) hi]
 simp
theorem app_all{T E:TypeId}{z:Value}{size bytes n cap m c g c1:Nat}{cs0 news:List Value}{ad:Addr}{ty:TypeId}{cs:Array Value}(q:Value→Prop)(hT:P.underlying T=some (.slice E))(hi:(P.info? E).map (fun i=>(i.zero,i.size,i.bytes))=some (some z,size,bytes))(hzs:z.cells.size=size)(hsz:0<size)
  (hub:w.heap[b]? = some (.cells cs0.toArray E (0,0))) (hn:n≤cap) (hcl:cs0.length=cap*size) (hl:news.length=m*size) (hnews:∀j x,news[j]? = some x→w.cell? (ad.add j)=some x) (h1:∀x∈news,x.oneCell'=true) (h63:n+m≤maxLen) (hbytes:(n+m)*bytes≤140737488355328)
  (hrun:(Builtin.append_ #[T,T] ty #[.slice (some ⟨b,0,none⟩) n cap,.slice (some ad) m c]).run P w=.ok (.slice (some ⟨g,0,none⟩) (n+m) c1) w') (hgv:w'.heap[g]? = some (.cells cs E (0,0))) (q0:∀v∈cs0,q v) (q1:∀v∈news,q v) (q2:∀v∈z.cells.toList,q v):∀v∈cs.toList,q v:=by
 obtain⟨i,hi1,hz,hs,hby⟩:=info_parts hi;have hle:n*size≤cs0.length:=by rw[hcl];exact Nat.mul_le_mul_right _ hn
 by_cases hroom:n+m≤cap
 ·have hr:=run_append_room (P:=P) w T ty E i hT hi1 b n cap cs0.toArray hub ad m c news (by rw[hs];exact hl) hnews h1 hroom (by rw[hs,hl,List.size_toArray,hcl,←Nat.add_mul];exact Nat.mul_le_mul_right _ hroom);rw[hrun] at hr
  injection hr with hv hw2
  injection hv with ha _ _
  injection ha with ha
  injection ha with hg _ _
  subst hg;subst hw2;rw[setRow_heap w g cs0.toArray _ E _ hub] at hgv
  injection hgv with hgv
  injection hgv with hgv _ _
  intro v hv;rw[←hgv] at hv
  simp only[List.mem_append] at hv
  rcases hv with (hv|hv)|hv
  ·exact q0 v (List.mem_of_mem_take hv)
  ·exact q1 v hv
  exact q0 v (List.mem_of_mem_drop hv)
 have hr:=run_append_grow (P:=P) w T ty E i z hT hi1 hz ⟨b,0,none⟩ n cap (cs0.take (n*size)) (by rw[List.length_take,hs,Nat.min_eq_left hle]) (fun j x hx=>by
   rw[addr_add,Nat.zero_add,cell_of_row w b j cs0.toArray E (0,0) hub];rw[List.getElem?_take] at hx
   split at hx
   ·simpa using hx
   cases hx) ad m c news (by rw[hs];exact hl) hnews xq (by unfold maxLen at h63;omega) (growslice_fits xq (by rw[hby];exact hbytes))
 rw[hrun] at hr
 injection hr with hv hw2
 injection hv with ha _ _
 injection ha with ha
 injection ha with hg _ _
 subst hg;subst hw2;have h9:=zxq w.drew (.cells ((cs0.take (n*size)).toArray++news.toArray++Builtin.zeroCells z.cells (grownCap w (n+m) cap E-(n+m))) E);have h8:w.drew.heap.size=w.heap.size:=rfl;rw[h8,hgv] at h9
 injection h9 with h9
 injection h9 with h9 _ _
 intro v hv;rw[h9] at hv
 simp only[Array.toList_append,List.mem_append] at hv
 rcases hv with (hv|hv)|hv
 ·exact q0 v (List.mem_of_mem_take hv)
 ·exact q1 v hv
 exact q2 v (zc_mem xq hv)
theorem app_all0{T E:TypeId}{z:Value}{size bytes m c g c1:Nat}{news:List Value}{ad:Addr}{ty:TypeId}{cs:Array Value}(q:Value→Prop)(hT:P.underlying T=some (.slice E))(hi:(P.info? E).map (fun i=>(i.zero,i.size,i.bytes))=some (some z,size,bytes))(hzs:z.cells.size=size)(hsz:0<size)
  (hl:news.length=m*size) (hnews:∀j x,news[j]? = some x→w.cell? (ad.add j)=some x) (hm:0<m) (h63:m≤maxLen) (hbytes:m*bytes≤140737488355328)
  (hrun:(Builtin.append_ #[T,T] ty #[qyn,.slice (some ad) m c]).run P w=.ok (.slice (some ⟨g,0,none⟩) m c1) w') (hgv:w'.heap[g]? = some (.cells cs E (0,0))) (q1:∀v∈news,q v) (q2:∀v∈z.cells.toList,q v):∀v∈cs.toList,q v:=by
 obtain⟨i,hi1,hz,hs,hby⟩:=info_parts hi;have hr:=run_append_nil (P:=P) w T ty E i z hT hi1 hz ad m c news (by rw[hs];exact hl) hnews hm (by unfold maxLen at h63;omega) (by rw[hby];omega);rw[hrun] at hr
 injection hr with hv hw2
 injection hv with ha _ _
 injection ha with ha
 injection ha with hg _ _
 subst hg;subst hw2;have h9:=zxq w.drew (.cells (news.toArray++Builtin.zeroCells z.cells (grownCap w m 0 E-m)) E);have h8:w.drew.heap.size=w.heap.size:=rfl;rw[h8,hgv] at h9
 injection h9 with h9
 injection h9 with h9 _ _
 intro v hv;rw[h9] at hv
 simp only[Array.toList_append,List.mem_append] at hv
 rcases hv with hv|hv
 ·exact q1 v hv
 exact q2 v (zc_mem xq hv)
theorem sy_appDp(d:Tmp){T E:TypeId}{s x:Operand}{z:Value}{size bytes:Nat}{b2 off m c n cap:Nat}{cs0:List Value}(news:List Value)(hT:P.underlying T=some (.slice E))(hi:(P.info? E).map (fun i=>(i.zero,i.size,i.bytes))=some (some z,size,bytes))(hzs:z.cells.size=size)(hsz:0<size)
  (hl:news.length=m*size) (hnews:∀j v,news[j]? = some v→u.cell? ⟨b2,off+j,none⟩=some v) (h1:∀v∈news,v.oneCell'=true) (hm:0<m) (h63:n+m≤maxLen) (hbytes:(n+m)*bytes≤140737488355328)
  (hn:n≤cap) (hcap:cap≤maxLen) (hcl:cs0.length=cap*size) (hub:u.heap[b]? = some (.cells cs0.toArray E (0,0))) (hb:MayB w0 u0 b)
  (k:∀(g c1:Nat) (cs:List Value) (u1:World),n+m≤c1→c1≤maxLen→cs.length=c1*size→cs.take ((n+m)*size)=cs0.take (n*size)++news→u1.heap[g]? = some (.cells cs.toArray E (0,0))→(g=b∨u.heap.size≤g)→ExtB b u u1→(∀q:Value→Prop,(∀v∈cs0,q v)→(∀v∈news,q v)→(∀v∈z.cells.toList,q v)→∀v∈cs,q v)→sym P ops w0 u0 true rest (S.set d (.v (.slice (some ⟨g,0,none⟩) (n+m) c1))) u1 K)
  (hw:Wants ops o S:=by exact zwf xj) (hd:o.dst=some d:=by kernel_rfl) (hop:o.op=.call { callee:=.builtin .append,args:=#[s,x],argTypes:=#[T,T] }:=by rfl) (hf:freeB S d=true:=by kernel_rfl)
  (hs:evO S s=some (.v (.slice (some ⟨b,0,none⟩) n cap)):=by rfl) (hx:evO S x=some (.v (.slice (some ⟨b2,off,none⟩) m c)):=by rfl):sym P ops w0 u0 true ((o,p)::rest) S u K:=by
 refine .inr (.inr (.inl ⟨.inl rfl,fun B a w u' he hrep=>⟨hw B a hrep.regs,?_⟩⟩));have hub':=he.cells hub;have hwb:=hrep.dat.ext.cells hub';have hltu:=zyz hub';have hus:u'.heap.size=w.heap.size:=hrep.dat.size
 obtain⟨g,c1,cs,w',hrun,hgv,k1,k2,k3,k4,k5,k6⟩:=run_app (P:=P) (u0:={ w with heap:=#[] }) (w:=w) (v:=.slice (some ⟨b,0,none⟩) n cap) (n:=n) (xs:=cs0.take (n*size)) (ad:=⟨b2,off,none⟩) (c:=c) hT hi hzs hsz
  ⟨by rw[List.length_take,hcl];exact Nat.min_eq_left (Nat.mul_le_mul_right _ hn),.inr ⟨b,cap,cs0.toArray,rfl,Nat.zero_le _,hwb,hn,hcap,by simpa using hcl,by simp⟩⟩ hl (fun j v hv=>by rw[addr_add];exact hrep.dat.ext.cell (he.cell (hnews j v hv))) h1 hm h63 hbytes (Nat.zero_le _) o.type
 unfold Oper.wp execOp
 simp only[hop,resolve,invoke,builtin,Sem.run_bind,Sem.run_pure,Result.andThen_ok,List.map_toArray,List.map_cons,List.map_nil,ev_of hrep.regs hs,ev_of hrep.regs hx,SV.conc,hrun]
 have aa:u'.heap.size≤w'.heap.size:=by rw[hus];exact k5.size
 have hgb:g=b∨g=w.heap.size:=by
  rcases k6 with k6|k6
  ·have:some b=some g:=k6
   injection this with this;exact .inl this.symm
  exact .inr k6
 have hgw:=zyz hgv;have hcs:w'.heap[g]? = some (.cells cs.toList.toArray E (0,0)):=by simpa using hgv
 have hkey:∀k,k<u'.heap.size→k≠b→w'.heap[k]? = w.heap[k]? := fun k hk hne=>k5.block k xq (fun e=>hne (by have:some k=some b:=e;injection this));have hbw:b<w'.heap.size:=by omega
 have hgl:g<(setW (hide u' w') b hidO).heap.size:=by rw[setW_size,zwq aa];exact hgw
 have hold:∀k,k<u'.heap.size→k≠b→(grownW u' w' b g (.cells cs.toList.toArray E (0,0))).heap[k]? = u'.heap[k]? := fun k hk hne=>by
  unfold grownW
  rw[setW_ne (by rcases hgb with h|h<;>omega),setW_ne hne,hide_old hk]
 have hdat:Dat (grownW u' w' b g (.cells cs.toList.toArray E (0,0))) w':=by
  refine⟨grownW_size aa,fun k ob hk hh=>?_⟩
  by_cases e:k=g
  ·subst e
   unfold grownW at hk
   rw[setW_eq hgl] at hk;rw[hcs];exact hk
  unfold grownW at hk
  rw[setW_ne e] at hk
  by_cases e2:k=b
  ·subst e2;rw[setW_eq (by rw[zwq aa];exact hbw)] at hk
   injection hk with hk;exact absurd hk.symm hh
  rw[setW_ne e2] at hk
  rcases Nat.lt_or_ge k u'.heap.size with hlt|hge
  ·rw[hide_old hlt] at hk;rw[hkey k hlt e2];exact hrep.dat.vis k ob hk hh
  have:=zyz hk;rw[zwq aa] at this;rw[hide_new hge this] at hk
  injection hk with hk;exact absurd hk.symm hh
 have hgr:GrowF [b] u' (grownW u' w' b g (.cells cs.toList.toArray E (0,0))):=⟨by rw[grownW_size aa];exact aa,fun k hk hf=>hold k hk (by simpa using hf)⟩
 have hr1:=hrep.mut (F:=[b]) (fun b' hm=>by simp at hm;subst hm;exact⟨hb,_,hub',by unfold hidO;intro e;cases e⟩) hdat ⟨k5.os,k5.tape,k5.output,k5.size,fun k hk _ hf=>hkey k (by rw[hus];exact hk) (by simpa using hf)⟩ hgr;have hr2:=hr1.set (d:=o.dst) (x:=some (.v (.slice (some ⟨g,0,none⟩) (n+m) c1))) (v:=.slice (some ⟨g,0,none⟩) (n+m) c1) (fun s hs=>(zxx hd hf s hs).1) (fun z e=>by injection e with e;rw[←e];rfl) (fun z t e ht=>by injection e with e;rw[←e] at ht;cases ht);show ∃S' B' u'' u2,Rep w0 u0 S' B' (a.put o.dst _) w' u''∧_;refine⟨_,B,_,_,hr2,(fun e=>by cases e),(fun e=>by cases e),Ext.refl _,?_⟩;rw[hd];exact k g c1 cs.toList _ k1 k2 k3 k4 (by unfold grownW;rw[setW_eq hgl]) (by have:=he.size;omega) (ExtF.toB (.pre he hgr.extF)) (fun q q0 q1 q2=>app_all q hT hi hzs hsz hwb hn hcl hl (fun j v hv=>by rw[addr_add];exact hrep.dat.ext.cell (he.cell (hnews j v hv))) h1 h63 hbytes hrun hgv q0 q1 q2)
theorem sy_appD0p(d:Tmp){T E:TypeId}{s x:Operand}{z:Value}{size bytes:Nat}{b2 off m c:Nat}(news:List Value)(hT:P.underlying T=some (.slice E))(hi:(P.info? E).map (fun i=>(i.zero,i.size,i.bytes))=some (some z,size,bytes))(hzs:z.cells.size=size)(hsz:0<size)
  (hl:news.length=m*size) (hnews:∀j v,news[j]? = some v→u.cell? ⟨b2,off+j,none⟩=some v) (h1:∀v∈news,v.oneCell'=true) (hm:0<m) (h63:m≤maxLen) (hbytes:m*bytes≤140737488355328)
  (k:∀(g c1:Nat) (cs:List Value) (u1:World),m≤c1→c1≤maxLen→cs.length=c1*size→cs.take (m*size)=news→u1.heap[g]? = some (.cells cs.toArray E (0,0))→u.heap.size≤g→u0.heap.size≤g→Ext u u1→(∀q:Value→Prop,(∀v∈news,q v)→(∀v∈z.cells.toList,q v)→∀v∈cs,q v)→sym P ops w0 u0 true rest (S.set d (.v (.slice (some ⟨g,0,none⟩) m c1))) u1 K)
  (hw:Wants ops o S:=by exact zwf xj) (hd:o.dst=some d:=by kernel_rfl) (hop:o.op=.call { callee:=.builtin .append,args:=#[s,x],argTypes:=#[T,T] }:=by rfl) (hf:freeB S d=true:=by kernel_rfl)
  (hs:evO S s=some (.v (qyn)):=by rfl) (hx:evO S x=some (.v (.slice (some ⟨b2,off,none⟩) m c)):=by rfl):sym P ops w0 u0 true ((o,p)::rest) S u K:=by
 refine .inr (.inr (.inl ⟨.inl rfl,fun B a w u' he hrep=>⟨hw B a hrep.regs,?_⟩⟩));have hus:u'.heap.size=w.heap.size:=hrep.dat.size
 obtain⟨g,c1,cs,w',hrun,hgv,k1,k2,k3,k4,k5,k6⟩:=run_app (P:=P) (u0:={ w with heap:=#[] }) (w:=w) (v:=qyn) (n:=0) (xs:=[]) (ad:=⟨b2,off,none⟩) (c:=c) hT hi hzs hsz
  ⟨by simp,.inl ⟨rfl,rfl⟩⟩ hl (fun j v hv=>by rw[addr_add];exact hrep.dat.ext.cell (he.cell (hnews j v hv))) h1 hm (by rw[Nat.zero_add];exact h63) (by rw[Nat.zero_add];exact hbytes) (Nat.zero_le _) o.type
 rw[Nat.zero_add] at hrun k1 k4
 unfold Oper.wp execOp
 simp only[hop,resolve,invoke,builtin,Sem.run_bind,Sem.run_pure,Result.andThen_ok,List.map_toArray,List.map_cons,List.map_nil,ev_of hrep.regs hs,ev_of hrep.regs hx,SV.conc,hrun]
 have aa:u'.heap.size≤w'.heap.size:=by rw[hus];exact k5.size
 have hge:g=w.heap.size:=by
  rcases k6 with k6|k6
  ·cases k6
  exact k6
 have hgw:=zyz hgv;have hcs:w'.heap[g]? = some (.cells cs.toList.toArray E (0,0)):=by simpa using hgv
 have hkey:∀k,k<u'.heap.size→w'.heap[k]? = w.heap[k]? := fun k hk=>k5.block k xq (fun e=>by cases e);have hgl:g<(hide u' w').heap.size:=by rw[zwq aa];exact hgw
 have hold:∀k,k<u'.heap.size→(setW (hide u' w') g (.cells cs.toList.toArray E (0,0))).heap[k]? = u'.heap[k]? := fun k hk=>by
  rw[setW_ne xq,hide_old hk]
 have hdat:Dat (setW (hide u' w') g (.cells cs.toList.toArray E (0,0))) w':=by
  refine⟨by rw[setW_size,zwq aa],fun k ob hk hh=>?_⟩
  by_cases e:k=g
  ·subst e;rw[setW_eq hgl] at hk;rw[hcs];exact hk
  rw[setW_ne e] at hk
  rcases Nat.lt_or_ge k u'.heap.size with hlt|hge
  ·rw[hide_old hlt] at hk;rw[hkey k hlt];exact hrep.dat.vis k ob hk hh
  have:=zyz hk;rw[zwq aa] at this;rw[hide_new hge this] at hk
  injection hk with hk;exact absurd hk.symm hh
 have hgr:GrowF [] u' (setW (hide u' w') g (.cells cs.toList.toArray E (0,0))):=⟨by rw[setW_size,zwq aa];exact aa,fun k hk _=>hold k hk⟩
 have hr1:=hrep.mut (F:=[]) (fun b' hm=>by cases hm) hdat ⟨k5.os,k5.tape,k5.output,k5.size,fun k hk _ _=>hkey k (by rw[hus];exact hk)⟩ hgr;have hr2:=hr1.set (d:=o.dst) (x:=some (.v (.slice (some ⟨g,0,none⟩) m c1))) (v:=.slice (some ⟨g,0,none⟩) m c1) (fun s hs=>(zxx hd hf s hs).1) (fun z e=>by injection e with e;rw[←e];rfl) (fun z t e ht=>by injection e with e;rw[←e] at ht;cases ht);show ∃S' B' u'' u2,Rep w0 u0 S' B' (a.put o.dst _) w' u''∧_;refine⟨_,B,_,_,hr2,(fun e=>by cases e),(fun e=>by cases e),Ext.refl _,?_⟩;rw[hd];have hs1:=he.size;have hs2:=hrep.grow.size;exact k g c1 cs.toList _ k1 k2 k3 (by simpa using k4) (setW_eq hgl) xq xq (he.trans hgr.nil.ext) (fun q q1 q2=>app_all0 q hT hi hzs hsz hl (fun j v hv=>by rw[addr_add];exact hrep.dat.ext.cell (he.cell (hnews j v hv))) hm h63 hbytes hrun hgv q1 q2)
def PostF(F:List Nat)(u w:World)(Φ:Value→World→Prop)(e:Ending)(w':World):Prop:=
 ∃v u',e=.returned v∧Dat u' w'∧Bel ⟨w,none,F⟩ w'∧GrowF F u u'∧Φ v u'
theorem calls_symF{f:FuncId}{fn:Func}{args:List Value}{Φ:Value→World→Prop}{rs:List ResultVar}{n:Nat}{c:Code}(hf:P.funcs[f]? = some fn)(hb:fn.body=some c)(hn:fn.ntmps=n)(hrs:fn.results=rs.toArray)(hargs:args.length≤n)(hl:rs.length≤4){w0:World}(d:Dat u0 w0)(h:SW P ⟨w0,none,F⟩ u0 c (St.init n args) u0 (MP.fin P rs Φ)):
  Calls P f args.toArray w0 (PostF F u0 w0 Φ):=by
 refine calls_of_wp hf hb (wp_mono (h (fun _=>0) _ w0 u0 (Ext.refl _) ?_) ?_)
 ·refine⟨⟨fun t x hx=>?_,by simp[St.init,hn];omega⟩,⟨fun r x t hx ht=>?_⟩,rfl,(fun t V h=>by cases h),(fun t t' V V' h=>by cases h),d,d.size,GrowF.refl _ _,⟨rfl,rfl,rfl,Nat.le_refl _,fun _ _ _ _=>rfl⟩⟩
  ·simp only[St.init,Option.map_eq_some_iff] at hx
   obtain⟨v,h1,rfl⟩:=hx;have hlt:t<args.toArray.size:=by have:=(List.getElem?_eq_some_iff.1 h1).1;simpa using this
   rw[Array.getElem?_append_left hlt];show args.toArray[t]? = some v
   simpa using h1
  simp only[St.init,Option.map_eq_some_iff] at hx
  obtain⟨v,h1,rfl⟩:=hx
  cases ht
 rintro ex a' w' ⟨S',B',u'',r1,r3⟩
 have key:(∃xs pubs,resAll P S' rs xs∧(∀t∈pubs,∃V,S'.var t=some V)∧∀B u1,Ext u'' u1→Visible S' B u1 pubs→Φ (tupV (xs.map (SV.conc B))) u1)→a'.defers=[]∧∃v,(results fn a'.tmps).run P w'=.ok v w'∧PostF F u0 w0 Φ (.returned v) w':=by
  rintro ⟨xs,pubs,k1,k2,k3⟩;refine⟨r1.defers,_,results_eq hrs k1 r1 hl,_,pubW u'' w' (pubs.map B'),rfl,pubW_dat r1.dat,⟨r1.bel.os,r1.bel.tape,r1.bel.output,r1.bel.size,fun k hk hl hf=>r1.bel.block k hk (fun t e=>by cases e) hf⟩,pubW_grow r1.grow (fun b hb=>?_),k3 B' _ (pubW_ext r1.dat) (fun t ht V hV=>?_)⟩
  ·obtain⟨t,ht,rfl⟩:=List.mem_map.1 hb;obtain⟨V,hV⟩:=k2 t ht;have ho:=(r1.var t V hV).2.2
   rcases Nat.lt_or_ge t S'.n with hs3|hs3
   ·exact ho.1 hs3
   exact absurd (ho.2 hs3) (by simp)
  obtain⟨v1,v2,_⟩:=r1.var t V hV;rw[pubW_in (List.mem_map_of_mem ht) (zyz v2) r1.dat.size];exact v1
 cases ex with
 | ret=>exact key r3
 | normal=>exact key r3
 | _=>exact r3.elim
theorem zwk(F:List Nat)(d:Tmp)(f:FuncId)(args:List Value){Φ:Value→World→Prop}(hF:∀b∈F,MayB w0 u0 b∧∃ob,u.heap[b]? = some ob∧ob≠hidO)
  (kc:∀w u1,Ext u u1→Dat u1 w→Calls P f args.toArray w (PostF F u1 w Φ))
  (k:∀v u2,ExtF F u u2→Φ v u2→sym P ops w0 u0 true rest (S.set d (.v v)) u2 K)
  (hw:Wants ops o S:=by exact zwf xj) (hd:o.dst=some d:=by kernel_rfl) (hf:(freeB S d&&knownB S o)=true:=by kernel_rfl) (hk:opK o.op≠2:=by decide)
  (hrun:∀B w,(execOp (rho S B) o).run P w=.ok (.enter f args.toArray) w:=by intro _ _;kernel_rfl):sym P ops w0 u0 true ((o,p)::rest) S u K:=by
 simp only[Bool.and_eq_true] at hf
 refine .inr (.inr (.inl ⟨.inl rfl,fun B a w u' he hrep=>⟨hw B a hrep.regs,?_⟩⟩))
 unfold Oper.wp
 rw[exec_rho hrep.regs hf.2 hk,hrun B w]
 simp only[Oper.upon]
 refine Calls.mono (kc w u' he hrep.dat) ?_;rintro e w' ⟨v,u2,rfl,k1,k2,k3,k4⟩;have hr1:=hrep.mut (F:=F) (fun b hm=>by obtain⟨h1,ob,h2,h3⟩:=hF b hm;exact⟨h1,ob,he.vis b ob h2 h3,h3⟩) k1 k2 k3;have hr2:=hr1.set (d:=o.dst) (x:=some (.v v)) (v:=v) (fun s hs=>(zxx hd hf.1 s hs).1) (fun z e=>by injection e with e;rw[←e];rfl) (fun z t e ht=>by injection e with e;rw[←e] at ht;cases ht);refine⟨_,B,u2,u2,hr2,(fun e=>by cases e),(fun e=>by cases e),Ext.refl _,?_⟩;have:=k v u2 (.pre he k3.extF) k4;rw[hd];exact this
theorem Left.step{M:List Nat}{pre post:List (Nat×List Tmp)}{y:Nat×List Tmp}{listed:Array Bool}(hL:Left ops M (pre++y::post) listed)(hro:∀j,(M.getD y.1 0).testBit j=true→j∉(pre++y::post).map (·.1)):Left ops M (pre++post) (listed.setIfInBounds y.1 true):=by
 have hsub:(pre++post).Sublist (pre++y::post):=List.Sublist.append_left (List.sublist_cons_self _ _) _
 have hyn:y.1∉(pre++post).map (·.1):=by
  have:=hL.nodup;rw[List.map_append,List.map_cons] at this;have h2:=List.nodup_append.1 this;have h3:=(List.nodup_cons.1 h2.2.1).1;intro hm;rw[List.map_append] at hm
  rcases List.mem_append.1 hm with hm|hm
  ·exact h2.2.2 y.1 hm y.1 (List.mem_cons_self ..) rfl
  exact h3 hm
 have hmem:∀j,j≠y.1→(j∈(pre++post).map (·.1)↔j∈(pre++y::post).map (·.1)):=fun j hj=>by simp[hj]
 refine⟨hL.nodup.sublist (hsub.map _),hL.pair.sublist hsub,by simp[hL.size],fun j hj=>?_,fun x hx=>hL.lt x (hsub.mem hx),fun x hx=>hL.mask x (hsub.mem hx),fun j hj hjn x hx=>?_⟩
 ·by_cases e:j=y.1
  ·subst e
   constructor
   ·intro h
    simp[hL.size,hj] at h
   intro h;exact absurd h hyn
  rw[getD_set_ne true (Ne.symm e),hmem j e];exact hL.mem j hj
 intro hmx
 by_cases e:j=y.1
 ·subst e;exact hro x hx ((hsub.map _).mem hmx)
 exact hL.closed j hj (fun h=>hjn ((hmem j e).2 h)) x hx ((hsub.map _).mem hmx)
def chainB(M:List Nat):List (Nat×List Tmp)→Bool
 | []=>true
 | x::l=>l.all (fun y=>(M.getD y.1 0).testBit x.1)&&chainB M l
theorem any_chain{M:List Nat}{Q:Exit→Act→World→Prop}:∀(T:List (Nat×List Tmp)) (listed:Array Bool) (a:Act) (w:World),Left ops M T listed→chainB M T=true →
  wpList P ops Q (T.map fun x=>ops.getD x.1 default) a w→wpAny P .any ops Q T.length listed a w:=by
 intro T
 induction T with
 | nil=>
  intro listed a w hL _ h;refine⟨?_,h⟩
  cases e:Region.ready .any ops listed with
  | nil=>rfl
  | cons i l=>
   have:=(hL.ready_mem (i:=i) (by rw[e];exact List.mem_cons_self ..)).2.1
   simp at this
 | cons y T ih=>
  intro listed a w hL hc h
  simp only[chainB,Bool.and_eq_true] at hc
  refine⟨fun e=>?_,fun i hi=>?_⟩
  ·have:=hL.head_ready;rw[e] at this
   cases this
  obtain⟨hlt,hm,hout⟩:=hL.ready_mem hi;obtain⟨x,hx,rfl⟩:=List.mem_map.1 hm;have hro:=reach_out hL hx hout
  have hxy:x=y:=by
   rcases List.mem_cons.1 hx with rfl|hx'
   ·rfl
   exact absurd (List.mem_map.2 ⟨y,List.mem_cons_self ..,rfl⟩) (hro y.1 (List.all_eq_true.1 hc.1 x hx'))
  subst hxy
  have hL':Left ops M T (listed.setIfInBounds x.1 true):=by
   have:=Left.step (pre:=[]) (post:=T) hL hro;exact this
  have key:ops[x.1]? = some (opAt ops x).1:=get_op hlt
  simp only[wpOp,key]
  simp only[List.map_cons] at h
  unfold wpList at h
  have h:if Region.wanted (opAt ops x).1 (yielded ops a.tmps)=true then(opAt ops x).1.wp P a w (wpList P ops Q (T.map fun x=>ops.getD x.1 default)) Q∨((opAt ops x).1.asks P a w∧LetsOut Q) else wpList P ops Q (T.map fun x=>ops.getD x.1 default) (a.put (opAt ops x).1.dst undef) w:=h
  split
  ·rename_i hw
   rw[if_pos hw] at h;exact h.imp (Oper.wp_mono fun a w h=>ih _ a w hL' hc.2 h) id
  rename_i hw
  rw[if_neg hw] at h;exact ih _ _ w hL' hc.2 h
theorem any_symT{M:List Nat}{T:List (Nat×List Tmp)}{Q:Exit→Act→World→Prop}(hK:Mono K)(hc:chainB M T=true)(hQ:∀S u,K S u→∀B a w,Rep w0 u0 S B a w u→wpList P ops Q (T.map fun x=>ops.getD x.1 default) a w):
  ∀(fuel:Nat) (L:List (Nat×List Tmp)) (listed:Array Bool) (S:St) (B:Tmp→Nat) (a:Act) (w u:World),L.length=fuel→Left ops M (L++T) listed→(∀x∈L,∀y∈T,(M.getD y.1 0).testBit x.1=true)→Rep w0 u0 S B a w u →
   sym P ops w0 u0 false (L.map (opAt ops)) S u K→wpAny P .any ops Q (fuel+T.length) listed a w:=by
 intro fuel
 induction fuel with
 | zero=>
  intro L listed S B a w u hl hL _ hr hs;obtain rfl:=List.length_eq_zero_iff.1 hl;rw[Nat.zero_add];exact any_chain T listed a w hL hc (hQ S u hs B a w hr)
 | succ fuel ih=>
  intro L listed S B a w u hl hL hT hr hs;rw[Nat.succ_add];refine⟨fun e=>?_,fun i hi=>?_⟩
  ·cases L with
   | nil=>cases hl
   | cons x L=>
    have:=Left.head_ready (L:=L++T) hL;rw[e] at this
    cases this
  obtain⟨hlt,hm,hout⟩:=hL.ready_mem hi;obtain⟨y,hy,rfl⟩:=List.mem_map.1 hm;have hro:=reach_out hL hy hout
  have hyL:y∈L:=by
   rcases List.mem_append.1 hy with h|h
   ·exact h
   cases L with
   | nil=>cases hl
   | cons x L=>exact absurd (by simp) (hro x.1 (hT x (List.mem_cons_self ..) y h))
  obtain⟨pre,post,rfl⟩:=List.append_of_mem hyL
  have hsw:∀x∈pre.map (opAt ops),swapOk ops x (opAt ops y)=true:=by
   intro x hx;obtain⟨x',hx',rfl⟩:=List.mem_map.1 hx;have hp:=hL.pair;rw[List.append_assoc,List.cons_append] at hp;have:=(List.pairwise_append.1 hp).2.2 x' hx' y (List.mem_cons_self ..)
   simp only[pairOk,Bool.and_eq_true,Bool.or_eq_true] at this
   rcases this.1 with h1|h1
   ·exact absurd (List.mem_map.2 ⟨x',by simp[hx'],rfl⟩) (hro x'.1 h1)
   exact h1
  rw[List.map_append,List.map_cons] at hs;have hone:=bubble hK (pre.map (opAt ops)) S u hr.wf hsw hs;have hsound:=one_sound (Q:=Q) (zwc hK) hone (Ext.refl _) hr
  have hL':Left ops M ((pre++post)++T) (listed.setIfInBounds y.1 true):=by
   have e1:(pre++y::post)++T=pre++y::(post++T):=by simp
   rw[e1] at hL hro;have:=Left.step hL hro;rw[List.append_assoc];exact this
  have hfin:∀a' w',(∃S' B' u'',Rep w0 u0 S' B' a' w' u''∧(false=false→Ext u u'')∧sym P ops w0 u0 false (pre.map (opAt ops)++post.map (opAt ops)) S' u'' K)→wpAny P .any ops Q (fuel+T.length) (listed.setIfInBounds y.1 true) a' w':=by
   rintro a' w' ⟨S',B',u'',g1,_,g3⟩;refine ih (pre++post) _ S' B' a' w' u'' (by simp at hl ⊢;omega) hL' (fun x hx=>hT x (by simp at hx ⊢;rcases hx with h|h<;>simp[h])) g1 ?_;rw[List.map_append];exact g3
  have key:ops[y.1]? = some (opAt ops y).1:=get_op hlt
  simp only[wpOp,key]
  split
  ·rename_i hw
   rw[if_pos hw] at hsound;exact .inl (Oper.wp_mono hfin hsound)
  rename_i hw
  rw[if_neg hw] at hsound;exact hfin _ _ hsound
def tailB(M:List Nat)(L T:List (Nat×List Tmp)):Bool:=L.all (fun x=>T.all fun y=>(M.getD y.1 0).testBit x.1)&&chainB M T
theorem sw_anyC{id:Nat}{Q:MP}(M:List Nat)(q T:List (Nat×List Tmp))(hm:P.follows .mixedOrders=true)(hok:regOk ops M (q++T)=true)(ht:tailB M q T=true)
  (h:sym P ops w0 u0 false (q.map (opAt ops)) S u (fun S' u'=>sym P ops w0 u0 true (T.map fun x=>(ops.getD x.1 default,[])) S' u' (Q.f .normal))):SW P w0 u0 (.region id ops true) S u Q:=by
 intro B a w u' e hr
 simp only[regOk,Bool.and_eq_true,beq_iff_eq,List.all_eq_true] at hok
 obtain⟨⟨⟨⟨h1,h2⟩,h5⟩,h3⟩,h4⟩:=hok
 simp only[tailB,Bool.and_eq_true,List.all_eq_true] at ht
 have hnd:=nodupB_spec h2;have hall:∀i,i<ops.size→i∈(q++T).map (·.1):=fun i hi=>List.contains_iff_mem.1 (h5 i (by simpa using hi));have hK:Mono (fun S' u'=>sym P ops w0 u0 true (T.map fun x=>(ops.getD x.1 default,([]:List Tmp))) S' u' (Q.f .normal)):=zwc (Q.mono _);have hs:ops.size=q.length+T.length:=by rw[←h1,List.length_append]
 refine wp_region_any hm ?_;rw[hs]
 have hlist:Left ops M (q++T) (Array.replicate (q.length+T.length) false):=by
  rw[←hs];refine⟨hnd,pairsOk_spec h4,by simp,fun i hi=>?_,fun x hx=>?_,fun x hx=>(h3 x hx).2,fun j hj hjn=>absurd (hall j hj) hjn⟩
  ·simp only[Array.getD_eq_getD_getElem?]
   rw[Array.getElem?_eq_getElem (by simpa using hi)]
   simp only[Array.getElem_replicate,Option.getD_some,true_iff]
   exact hall i hi
  obtain⟨⟨g1,g2⟩,g3⟩:=h3 x hx;refine⟨by simpa using g1,fun e he hb=>?_⟩
  simp only[Bool.not_eq_true',List.any_eq_false] at g2
  have:=g2 e (by simpa using he)
  simp[hb] at this
  exact this
 refine any_symT hK ht.2 (fun S u'' h B a w hr=>?_) q.length q _ S B a _ u' rfl hlist (fun x hx y hy=>ht.1 x hx y hy) hr.drew (zwc hK _ _ _ e h);have:=sl_key (Q:=fun e a' w'=>∃S' B' u'',Rep w0 u0 S' B' a' w' u''∧Q.f e S' u'') (K:=Q.f .normal) (Q.mono _) [] (fun S u h B a w hr=>by exact⟨S,B,u,hr,h⟩) (T.map fun x=>ops.getD x.1 default) S B a w u'' hr (by rw[List.map_map];exact h);rw[List.append_nil] at this;exact this
end
def MutL(k:Nat)(ty:TypeId)(lo:Nat)(u:World)(x:Sl)(cs:List Value):Prop:=
 cs.length=x.n*k∧x.n≤x.c∧x.c≤maxLen∧(x=⟨none,0,0⟩∨∃b all,x.a=some ⟨b,0,none⟩∧u.heap[b]? = some (.cells (List.toArray all) ty (0,0))∧all.length=x.c*k∧all.take (x.n*k)=cs∧lo≤b)
def offB(x:Sl)(h:Nat):Prop:=∀a,x.a=some a→a.block≠h
structure ExtX(x:Sl)(u u':World):Prop where
 size:u.heap.size≤u'.heap.size
 vis:∀(k:Nat) (o:Obj),offB x k→u.heap[k]? = some o→o≠hidO→u'.heap[k]? = some o
structure ExtT(ty:TypeId)(u u':World):Prop where
 size:u.heap.size≤u'.heap.size
 vis:∀(k:Nat) (cs:Array Value) (t:TypeId),t≠ty→u.heap[k]? = some (.cells cs t (0,0))→u'.heap[k]? = some (.cells cs t (0,0))
def sl0:Sl:=⟨none,0,0⟩
structure TL where
 f:Int
 c:Int
def TL.cs(t:TL):List Value:=[.int .i64 t.f,.int .i64 t.c]
@[reducible] def TL.v(t:TL):Value:=.agg #[.int .i64 t.f,.int .i64 t.c]
def ics(l:List Int):List Value:=l.map (Value.int .i64)
section
variable {k lo lo' h b n c i:Nat} {ty t2:TypeId} {u u' u'' v:World} {x y:Sl} {cs cs':List Value}
theorem cells_not_hid{cs:Array Value}{t:TypeId}:Obj.cells cs t (0,0)≠hidO:=by unfold hidO;intro e;cases e
theorem ExtX.t{cs:List Value}(e:ExtX x u u')(m:MutL k ty lo u x cs):ExtT ty u u':=⟨e.size,fun q cs' t ht hq=>by
 refine e.vis q _ (fun a ha hc=>?_) hq cells_not_hid
 rcases m.2.2.2 with h1|⟨b,all,h1,h2,_⟩
 ·rw[h1] at ha;cases ha
 rw[h1] at ha;injection ha with ha;subst ha
 rw[show b=q from hc,hq] at h2;injection h2 with h2;injection h2 with _ h2 _;exact ht h2⟩
theorem ExtX.root{cs:List Value}{u0:World}(e:ExtX x u u')(m:MutL k ty u0.heap.size u x cs)(r:Ext u0 u):Ext u0 u':=⟨Nat.le_trans r.size e.size,fun q o hq hh=>by
 refine e.vis q o (fun a ha hc=>?_) (r.vis q o hq hh) hh
 rcases m.2.2.2 with h1|⟨b,all,h1,_,_,_,h5⟩
 ·rw[h1] at ha;cases ha
 rw[h1] at ha;injection ha with ha;subst ha
 have:=zyz hq;have hc:b=q:=hc
 omega⟩
theorem Ext.toX(e:Ext u u')(x:Sl):ExtX x u u':=⟨e.size,fun q o _ h1 h2=>e.vis q o h1 h2⟩
theorem ExtB.toX(e:ExtB b u u')(hx:x.a=some ⟨b,0,none⟩):ExtX x u u':=⟨e.size,fun q o ho h1 h2=>e.vis q o (fun hc=>ho _ hx hc.symm) h1 h2⟩
theorem MutL.lt{a:Addr}(m:MutL k ty lo u x cs)(ha:x.a=some a):a.block<u.heap.size:=by
 rcases m.2.2.2 with h1|⟨b,all,h1,h2,_⟩
 ·rw[h1] at ha;cases ha
 rw[h1] at ha;injection ha with ha;subst ha;exact zyz h2
theorem MutL.cell{j:Nat}(m:MutL k ty lo u x cs)(hj:j<cs.length):∃b,x.a=some ⟨b,0,none⟩∧u.cell? ⟨b,0+j,none⟩=cs[j]? := by
 obtain⟨h1,h2,h3,h4⟩:=m
 rcases h4 with h4|⟨b,all,g1,g2,g3,g4,g5⟩
 ·subst h4
  simp at h1;subst h1;simp at hj
 refine⟨b,g1,?_⟩;rw[Nat.zero_add,cells_at g2,←g4,List.getElem?_take_of_lt xq];simp
theorem zwi(l:List Int):(ics l).length=l.length:=by unfold ics;simp
theorem ics_at{l:List Int}(h:i<l.length):(ics l)[i]? = some (.int .i64 (l.getD i 0)):=by
 unfold ics
 rw[List.getElem?_map,qyg,List.getElem?_eq_getElem h];rfl
theorem ics_set(l:List Int)(i:Nat)(z:Int):(ics l).set i (.int .i64 z)=ics (l.set i z):=by unfold ics;rw[List.map_set]
end
def Rows(k:Nat)(L:List (List Int)):Prop:=∀p∈L,p.length=k
def kcs(L:List (List Int)):List Value:=L.flatMap ics
def gi(L:List (List Int))(i j:Nat):Int:=(L.getD i []).getD j 0
section
variable {u u':World} {L M:List (List Int)} {p:List Int} {k n i j c b off:Nat} {x:Sl} {X:List Value} {a1 a2 a3 a4 a5:Int}
theorem kcs_cons:kcs (p::L)=ics p++kcs L:=rfl
theorem kcs_app:kcs (L++M)=kcs L++kcs M:=by simp[kcs]
theorem Rows.tail(h:Rows k (p::L)):Rows k L:=fun q hq=>h q (List.mem_cons_of_mem _ hq)
theorem Rows.head(h:Rows k (p::L)):p.length=k:=h p (List.mem_cons_self ..)
theorem kcs_len(h:Rows k L):(kcs L).length=L.length*k:=by
 induction L with
 | nil=>simp[kcs]
 | cons p L ih=>rw[kcs_cons,List.length_append,ih h.tail,zwi,h.head,List.length_cons,Nat.succ_mul,Nat.add_comm]
theorem Rows.get(h:Rows k L)(hi:i<L.length):(L.getD i []).length=k:=by
 rw[qyg,List.getElem?_eq_getElem hi];exact h _ (List.getElem_mem hi)
theorem rows_cons(hp:p.length=k)(h:Rows k L):Rows k (p::L):=fun q hq=>by
 rcases List.mem_cons.1 hq with rfl|hq
 ·exact hp
 exact h q hq
theorem kcs_drop(h:Rows k L):(kcs L).drop (n*k)=kcs (L.drop n):=by
 induction n generalizing L with
 | zero=>simp
 | succ n ih=>
  cases L with
  | nil=>simp[kcs]
  | cons p L=>rw[kcs_cons,show(n+1)*k=(ics p).length+n*k by rw[zwi,h.head,Nat.succ_mul,Nat.add_comm],List.drop_append,Nat.add_sub_cancel_left,ih h.tail,List.drop_of_length_le xq];simp
theorem kcs_get(h:Rows k L)(hi:i<L.length):((kcs L).drop (i*k)).take k=ics (L.getD i []):=by
 have hg:=h.get hi;rw[kcs_drop h,List.drop_eq_getElem_cons hi,kcs_cons];have e:L[i]=L.getD i []:=by rw[qyg,List.getElem?_eq_getElem hi];rfl
 rw[e,List.take_append_of_le_length (by rw[zwi];omega),List.take_of_length_le (by rw[zwi];omega)]
theorem ics_one:∀v∈ics p,v.oneCell'=true:=fun v hv=>by
 unfold ics at hv
 obtain⟨z,_,rfl⟩:=List.mem_map.1 hv;rfl
theorem kcs_one:∀v∈kcs L,v.oneCell'=true:=fun v hv=>by
 obtain⟨p,_,hp⟩:=List.mem_flatMap.1 hv;exact ics_one v hp
def IrV(k:Nat)(u:World)(x:Sl)(L:List (List Int)):Prop:=
 Rows k L∧x.n=L.length∧x.n≤x.c∧x.c≤maxLen∧(0<x.n→∃b o,x.a=some ⟨b,o,none⟩∧b<u.heap.size∧∀j,j<L.length*k→u.cell? ⟨b,o+j,none⟩=(kcs L)[j]?)
theorem IrV.ext(h:IrV k u x L)(e:Ext u u'):IrV k u' x L:=by
 obtain⟨h0,h1,h2,h3,h4⟩:=h;refine⟨h0,h1,h2,h3,fun hp=>?_⟩;obtain⟨b,o,g1,g2,g3⟩:=h4 hp;refine⟨b,o,g1,Nat.lt_of_lt_of_le g2 e.size,fun j hj=>?_⟩;have hk:=g3 j hj;have hj':j<(kcs L).length:=by rw[kcs_len h0];exact hj
 rw[List.getElem?_eq_getElem hj'] at hk ⊢;exact e.cell hk
theorem IrV.rows(h:IrV k u x L):Rows k L:=h.1
theorem IrV.len(h:IrV k u x L):x.n=L.length:=h.2.1
theorem ir_at(h:IrV k u x L)(hi:i<L.length):∃b o,x.a=some ⟨b,o,none⟩∧b<u.heap.size∧∀j,j<(ics (L.getD i [])).length→u.cell? ⟨b,o+i*k+j,none⟩=(ics (L.getD i []))[j]? := by
 obtain⟨h0,h1,h2,h3,h4⟩:=h;obtain⟨b,o,g1,g2,g3⟩:=h4 xq;refine⟨b,o,g1,g2,fun j hj=>?_⟩;rw[zwi,h0.get hi] at hj;have:(i+1)*k≤L.length*k:=Nat.mul_le_mul_right _ hi;rw[Nat.succ_mul] at this;rw[Nat.add_assoc,g3 (i*k+j) xq,←kcs_get h0 hi,List.getElem?_take_of_lt hj,List.getElem?_drop]
theorem ir_data{cs:List Value}{t:TypeId}(h:u.heap[b]? = some (.cells cs.toArray t (0,0)))(hR:Rows k L)(hc:cs.take (n*k)=kcs L)(hn:n=L.length)(hl:cs.length=c*k)(hnc:n≤c)(hm:c≤maxLen):IrV k u ⟨some ⟨b,0,none⟩,n,c⟩ L:=by
 refine⟨hR,hn,hnc,hm,fun _=>⟨b,0,rfl,zyz h,fun j hj=>?_⟩⟩;rw[Nat.zero_add,cells_at h,←hc,List.getElem?_take_of_lt (by rw[hn];exact hj)];simp
end
namespace Nt
def shF(s:List Int)(sg:Int)(l:List Int):List Int:=
 if s.getD 3 0=-1 then(l.set (s.getD 0 0).toNat (l.getD (s.getD 1 0).toNat 0)).set (s.getD 1 0).toNat (l.getD (s.getD 0 0).toNat 0)
 else if s.getD 3 0=-2 then l.set (s.getD 0 0).toNat (wrapW 32 (-(l.getD (s.getD 0 0).toNat 0)))
 else l.set (s.getD 0 0).toNat (wrapW 32 (l.getD (s.getD 0 0).toNat 0+sg*shiftW (s.getD 2 0*l.getD (s.getD 1 0).toNat 0) (s.getD 3 0) 2))
def shFs(S:List (List Int))(l:List Int):List Int:=S.foldl (fun l s=>shF s 1 l) l
def shBs(S:List (List Int))(l:List Int):List Int:=S.foldr (fun s l=>shF s (-1) l) l
def shOK(n:Int)(s:List Int):Prop:=0≤s.getD 0 0∧s.getD 0 0<n∧0≤s.getD 1 0∧s.getD 1 0<n∧-2≤s.getD 3 0∧s.getD 3 0≤20∧(s.getD 0 0=s.getD 1 0↔s.getD 3 0=-2)∧(s.getD 3 0<0→s.getD 2 0=0)∧-2097152≤s.getD 2 0∧s.getD 2 0≤2097152
instance(n:Int)(s:List Int):Decidable (shOK n s):=by unfold shOK;infer_instance
def W32(l:List Int):Prop:=∀i,i<l.length → -2147483648≤l.getD i 0∧l.getD i 0≤2147483647
section
variable {l m:List Int} {s:List Int} {S:List (List Int)} {n:Int} {i j:Nat} {v c sg:Int}
theorem wrap32(v:Int):wrapW 32 v=(v+2147483648)%4294967296-2147483648:=by
 unfold wrapW
 have e1:p2i (32-1)=2147483648:=by decide
 have e2:p2i 32=4294967296:=by decide
 rw[e1,e2]
 split<;>omega
theorem wrap32_bd(v:Int):-2147483648≤wrapW 32 v∧wrapW 32 v≤2147483647:=by rw[wrap32];omega
theorem wrap32_id(h:-2147483648≤v∧v≤2147483647):wrapW 32 v=v:=by rw[wrap32];omega
theorem getD_set_eq(h:i<l.length):(l.set i v).getD i 0=v:=by simp[h]
theorem getD_set_ne2(h:i≠j):(l.set i v).getD j 0=l.getD j 0:=by simp[h]
theorem shF_len:(shF s sg l).length=l.length:=by
 unfold shF
 split
 ·simp
 split<;>simp
theorem W32.set(h:W32 l)(hv:-2147483648≤v∧v≤2147483647):W32 (l.set i v):=fun k hk=>by
 rw[List.length_set] at hk
 by_cases e:i=k
 ·subst e;rw[getD_set_eq hk];exact hv
 rw[getD_set_ne2 e];exact h k hk
theorem W32.get(h:W32 l)(i:Nat):-2147483648≤l.getD i 0∧l.getD i 0≤2147483647:=by
 rcases Nat.lt_or_ge i l.length with h1|h1
 ·exact h i h1
 rw[qyg,List.getElem?_eq_none h1];decide
theorem shF_w32(h:W32 l):W32 (shF s sg l):=by
 unfold shF
 split
 ·exact(h.set (h.get _)).set (h.get _)
 split
 ·exact h.set (wrap32_bd _)
 exact h.set (wrap32_bd _)
theorem shFs_len:(shFs S l).length=l.length:=by
 unfold shFs
 induction S generalizing l with
 | nil=>rfl
 | cons s S ih=>rw[List.foldl_cons,ih,shF_len]
theorem shFs_w32(h:W32 l):W32 (shFs S l):=by
 unfold shFs
 induction S generalizing l with
 | nil=>exact h
 | cons s S ih=>rw[List.foldl_cons];exact ih (shF_w32 h)
theorem shBs_len:(shBs S l).length=l.length:=by
 unfold shBs
 induction S with
 | nil=>rfl
 | cons s S ih=>rw[List.foldr_cons,shF_len,ih]
end
end Nt
section
variable {L:List (List Int)} {p l:List Int} {X cs:List Value} {i n c b:Nat} {u u':World} {x:Sl} {z:Int}
theorem row_eq4(h:p.length=4):p=[p.getD 0 0,p.getD 1 0,p.getD 2 0,p.getD 3 0]:=by
 match p,h with
 | [a,b,c,d],_=>rfl
theorem ics4(h:Rows 4 L)(hi:i<L.length):ics (L.getD i [])=[.int .i64 (gi L i 0),.int .i64 (gi L i 1),.int .i64 (gi L i 2),.int .i64 (gi L i 3)]:=by rw[row_eq4 (h.get hi)];rfl
theorem ir_at4(h:IrV 4 u x L)(hi:i<L.length):∃b o,x.a=some ⟨b,o,none⟩∧∀j,j<[Value.int .i64 (gi L i 0),.int .i64 (gi L i 1),.int .i64 (gi L i 2),.int .i64 (gi L i 3)].length→u.cell? ⟨b,o+i*4+j,none⟩=[Value.int .i64 (gi L i 0),.int .i64 (gi L i 1),.int .i64 (gi L i 2),.int .i64 (gi L i 3)][j]? := by
 obtain⟨b,o,h1,h2,h3⟩:=ir_at h hi;rw[ics4 h.rows hi] at h3;exact⟨b,o,h1,h3⟩
theorem row4(h:Rows 4 L)(hi:i<L.length):L.getD i []=[gi L i 0,gi L i 1,gi L i 2,gi L i 3]:=row_eq4 (h.get hi)
theorem ints_dataX{t:TypeId}{m:List Int}(h:u.heap[b]? = some (.cells (ics l++X).toArray t (0,0)))(hl:l.length=n)(hX:(ics m++X).length=c)(hn:n≤c)(hc:c≤maxLen)(hm:m.length=l.length:=by first|rfl|(simp[shFs_len,shBs_len];done)):SlR .i64 u (some ⟨b,0,none⟩) n c l:=by
 refine ints_data h ?_ ?_ hn hc
 ·rw[List.take_append_of_le_length (by rw[zwi];omega),List.take_of_length_le (by rw[zwi];omega)];rfl
 rw[List.length_append,zwi,←hm,←zwi m,←List.length_append];exact hX
theorem part_intsX(hi:i<l.length){off:Nat}(ho:off=i*1):PartIs (ics l++X) off false 1 (.v (.int .i64 (l.getD i 0))):=by
 subst ho;refine⟨_,?_,rfl⟩;rw[Nat.mul_one,List.getElem?_append_left (by rw[zwi];exact hi)];exact ics_at hi
theorem setL_intsX(hi:i<l.length){off:Nat}(ho:off=i*1):setL (ics l++X) off (Value.int .i64 z).cells.toList=ics (l.set i z)++X:=by
 subst ho;rw[Nat.mul_one];have:=setL_cons (cs:=ics l++X) (off:=i) (v:=.int .i64 z) (vs:=[]) (by rw[List.length_append,zwi];omega);rw[setL_nil] at this;rw[←ics_set,←List.set_append_left (h:=by rw[zwi];exact hi)];exact this.symm
end
namespace Nt
section
variable {l:List Int} {s:List Int} {t f:Nat} {cf sh sg x n:Int}
theorem shF_x(h:sh=-1):shF [(t:Int),(f:Int),cf,sh] sg l=(l.set t (l.getD f 0)).set f (l.getD t 0):=by
 subst h;rfl
theorem shF_n(h:sh=-2):shF [(t:Int),(f:Int),cf,sh] sg l=l.set t (wrapW 32 (-(l.getD t 0))):=by
 subst h;rfl
theorem shF_s(h1:¬sh=-1)(h2:¬sh=-2):shF [(t:Int),(f:Int),cf,sh] sg l=l.set t (wrapW 32 (l.getD t 0+sg*shiftW (cf*l.getD f 0) sh 2)):=by
 unfold shF
 rw[if_neg (show ¬ [(t:Int),(f:Int),cf,sh].getD 3 0=-1 from h1),if_neg (show ¬ [(t:Int),(f:Int),cf,sh].getD 3 0=-2 from h2)]
 rfl
theorem sh_mul{a b A B:Int}(h1:-A≤a∧a≤A)(h2:-B≤b∧b≤B)(hA:0≤A):-(A*B)≤a*b∧a*b≤A*B:=by
 have k1:0≤(A-a)*(B+b):=Int.mul_nonneg xq xq;have k2:0≤(A+a)*(B-b):=Int.mul_nonneg xq xq;have k3:0≤(A-a)*(B-b):=Int.mul_nonneg xq xq;have k4:0≤(A+a)*(B+b):=Int.mul_nonneg xq xq
 constructor<;>grind
theorem shift_bd2(v n:Int):-(v.natAbs:Int)-1≤shiftW v n 2∧shiftW v n 2≤v.natAbs+1:=by
 unfold shiftW
 split
 ·omega
 rw[if_pos rfl];have h1:=Nt.div_bd (v:=v) (zxo n);have h2:=Int.emod_nonneg (v/p2i (n-1)) (show(2:Int)≠0 by decide);have h3:=Int.emod_lt_of_pos (v/p2i (n-1)) (show(0:Int)<2 by decide)
 omega
theorem sg_bd{B:Int}(h:sg=1∨sg=-1)(hx:-B≤x∧x≤B):-B≤sg*x∧sg*x≤B:=by
 rcases h with rfl|rfl
 ·rw[Int.one_mul];exact hx
 rw[Int.neg_mul,Int.one_mul];omega
theorem shOK_mk(h:shOK n [(t:Int),(f:Int),cf,sh]):(t:Int)<n∧(f:Int)<n∧-2≤sh∧sh≤20∧-2097152≤cf∧cf≤2097152∧((t:Int)=f↔sh=-2)∧(sh<0→cf=0):=by
 obtain⟨h1,h2,h3,h4,h5,h6,h7,h8,h9,h10⟩:=h;exact⟨h2,h4,h5,h6,h9,h10,h7,h8⟩
def shV(n:Int)(S:List (List Int)):Prop:=1≤n∧n≤64∧S.length≤64∧∀i,i<S.length→shOK n (S.getD i [])
instance(n:Int)(S:List (List Int)):Decidable (shV n S):=by unfold shV;infer_instance
instance(l:List Int):Decidable (W32 l):=by unfold W32;infer_instance
def chkE(S:List (List Int))(l:List Int):Int:=if shV (l.length:Int) S then(if W32 l then 0 else 17) else 2
def fwdL(S:List (List Int))(l:List Int):List Int:=if chkE S l=0 then shFs S l else []
theorem chk_0{S:List (List Int)}(h:chkE S l=0):shV (l.length:Int) S∧W32 l:=by
 unfold chkE at h
 split at h
 ·rename_i h1
  split at h
  ·rename_i h2;exact⟨h1,h2⟩
  exact absurd h xw
 exact absurd h xw
theorem ne_pair(a b c e:Int):(!((a==b)==(c==e)))=decide (¬(a=b↔c=e)):=by
 rw[show(a==b)=decide (a=b) from rfl,show(c==e)=decide (c=e) from rfl]
 by_cases h1:a=b<;>by_cases h2:c=e<;>simp[h1,h2]
theorem wrap_ne(v:Int):(v != wrapW 32 v) = !(decide (-2147483648≤v∧v≤2147483647)):=by
 by_cases h:-2147483648≤v∧v≤2147483647
 ·rw[wrap32_id h,decide_eq_true h];simp
 rw[decide_eq_false h];have:=wrap32_bd v
 simp only[Bool.not_false,bne_iff_ne]
 omega
theorem W32.mem(h:W32 l):∀z∈l,-9223372036854775808≤z∧z≤9223372036854775807:=fun z hz=>by
 obtain⟨i,hi,rfl⟩:=List.mem_iff_getElem.1 hz;have:=h i hi;rw[qyg,List.getElem?_eq_getElem hi] at this;have e:(some l[i]).getD 0=l[i]:=rfl;rw[e] at this
 omega
theorem fwd_mem{S:List (List Int)}:∀z∈fwdL S l,-9223372036854775808≤z∧z≤9223372036854775807:=by
 unfold fwdL
 split
 ·rename_i h;exact W32.mem (shFs_w32 (chk_0 h).2)
 intro z hz;cases hz
theorem shFs_snoc(S:List (List Int))(i:Nat)(hi:i<S.length)(l:List Int):shFs (S.take (i+1)) l=shF (S.getD i []) 1 (shFs (S.take i) l):=by
 unfold shFs
 rw[List.take_add_one,List.foldl_append,List.getElem?_eq_getElem hi,qyg,List.getElem?_eq_getElem hi]
 rfl
end
end Nt
theorem ty3:TyIs Tryz.prog 3 false 1:=fun w=>⟨by kernel_rfl,by kernel_rfl⟩
theorem ty4:TyIs Tryz.prog 4 false 1:=fun w=>⟨by kernel_rfl,by kernel_rfl⟩
theorem ty22:TyIs Tryz.prog 22 false 1:=fun w=>⟨by kernel_rfl,by kernel_rfl⟩
theorem ty28:TyIs Tryz.prog 28 true 4:=fun w=>⟨by kernel_rfl,by kernel_rfl⟩
theorem ty31:TyIs Tryz.prog 31 false 1:=fun w=>⟨by kernel_rfl,by kernel_rfl⟩
theorem ty33:TyIs Tryz.prog 33 true 2:=fun w=>⟨by kernel_rfl,by kernel_rfl⟩
theorem ty35:TyIs Tryz.prog 35 true 3:=fun w=>⟨by kernel_rfl,by kernel_rfl⟩
theorem ty45:TyIs Tryz.prog 45 true 6:=fun w=>⟨by kernel_rfl,by kernel_rfl⟩
theorem ty56:TyIs Tryz.prog 56 true 4:=fun w=>⟨by kernel_rfl,by kernel_rfl⟩
theorem ty63:TyIs Tryz.prog 63 false 1:=fun w=>⟨by kernel_rfl,by kernel_rfl⟩
theorem ty66:TyIs Tryz.prog 66 false 1:=fun w=>⟨by kernel_rfl,by kernel_rfl⟩
theorem ty77:TyIs Tryz.prog 77 false 1:=fun w=>⟨by kernel_rfl,by kernel_rfl⟩
theorem ty81:TyIs Tryz.prog 81 true 12:=fun w=>⟨by kernel_rfl,by kernel_rfl⟩
theorem ty87:TyIs Tryz.prog 87 true 4:=fun w=>⟨by kernel_rfl,by kernel_rfl⟩
theorem ty117:TyIs Tryz.prog 117 true 4:=fun w=>⟨by kernel_rfl,by kernel_rfl⟩
theorem ty122:TyIs Tryz.prog 122 true 3:=fun w=>⟨by kernel_rfl,by kernel_rfl⟩
theorem ty124:TyIs Tryz.prog 124 true 4:=fun w=>⟨by kernel_rfl,by kernel_rfl⟩
theorem ty158:TyIs Tryz.prog 158 true 3:=fun w=>⟨by kernel_rfl,by kernel_rfl⟩
theorem sl22:SlIs Tryz.prog 22 4:=⟨28,true,by kernel_rfl,ty28⟩
theorem sl29:SlIs Tryz.prog 29 1:=⟨3,false,by kernel_rfl,ty3⟩
theorem sl31:SlIs Tryz.prog 31 1:=⟨77,false,by kernel_rfl,ty77⟩
theorem sl55:SlIs Tryz.prog 55 4:=⟨56,true,by kernel_rfl,ty56⟩
theorem sl57:SlIs Tryz.prog 57 1:=⟨63,false,by kernel_rfl,ty63⟩
theorem sl60:SlIs Tryz.prog 60 1:=⟨66,false,by kernel_rfl,ty66⟩
theorem sl63:SlIs Tryz.prog 63 3:=⟨35,true,by kernel_rfl,ty35⟩
theorem sl66:SlIs Tryz.prog 66 6:=⟨45,true,by kernel_rfl,ty45⟩
theorem sl97:SlIs Tryz.prog 97 1:=⟨22,false,by kernel_rfl,ty22⟩
theorem k_riTrim{u w:World}{i1:IL}{zN:Int}{K:Nat}(d:Dat u w)(hi1:IntV u i1 zN K)(hK:K≤500000000):qyc 92 #[i1.v] w (Post u w fun v u'=>∃i:IL,v=i.v∧IntN u' i zN K):=by
 obtain⟨N,hN,hzN⟩:=hi1;refine zzl Tryz.func92 rfl Tryz.ntmps92 Tryz.results92 d ?_;refine sq9 (zzj 1 ⟨33,i1.cs⟩ (zzj 2 ⟨33,[.bool false,qyn]⟩ (zzb (sq9 (zza 4 (.adr 1 1) (zzh 5 (.v (i1.m.v)) ty31 zzk (zzg 6 89 _ fun _ _ ad af=>qym (k_rnTrim af (hN.ext ad) xq) ?_)))))));rintro _ u14 g15 ⟨aa,rfl,ab⟩;refine zza 3 (.v (aa.v)) (zzb (sq9 (zza 7 (.adr 1 0) (zzh 8 (zB i1.s) ty4 zzk ?_))))
 rcases Bool.eq_false_or_eq_true i1.s with hs17|hs17
 ·refine qbi 9 hs17 (zza 10 (.v (aa.v)) ?_ (hw:=w1 2 true 9));refine zza 11 (zI aa.n) ?_ (hw:=w1 2 true 9);refine zza 12 (zB (decide ((0:Int)<(aa.n:Int)))) ?_ (hw:=w1 2 true 9);refine zza 13 (zB (decide ((0:Int)<(aa.n:Int)))) (zza 14 (.v (aa.v)) (zza 15 (.v (.agg #[.bool (decide ((0:Int)<(aa.n:Int))),aa.v])) (zzi ⟨33,[.bool (decide ((0:Int)<(aa.n:Int))),aa.v]⟩ ty33 ?_)));refine zzb (zzn (ret0 [.agg #[.bool (decide ((0:Int)<(aa.n:Int))),aa.v]] ⟨zzq ty33 zze,trivial⟩ fun u18 ae=>?_));refine⟨⟨_,aa⟩,rfl,?_⟩;rw[hzN,hs17];exact signed_int (s:=true) (ab.ext ae)
 refine qbi 9 hs17 (zzm 10 (uw 2 true false 9) (zzm 11 (uw 2 true false 9) (zzm 12 (uw 2 true false 9) (zza 13 (zB false) (zza 14 (.v (aa.v)) (zza 15 (.v (.agg #[.bool false,aa.v])) (zzi ⟨33,[.bool false,aa.v]⟩ ty33 ?_)))))));refine zzb (zzn (ret0 [.agg #[.bool false,aa.v]] ⟨zzq ty33 zze,trivial⟩ fun u20 ac=>?_));refine⟨⟨_,aa⟩,rfl,?_⟩;rw[hzN,hs17];exact signed_int (s:=false) (ab.ext ac)
theorem k_riSign{u w:World}{i1:IL}{zN:Int}{K:Nat}(d:Dat u w)(hi1:IntV u i1 zN K)(hK:K≤500000000):qyc 90 #[i1.v] w (Post u w fun v u'=>v=.int .i64 (cmpS zN 0)):=by
 refine zzl Tryz.func90 rfl Tryz.ntmps90 Tryz.results90 d ?_;refine sq9 (zzj 1 ⟨33,i1.cs⟩ (zza 2 (zI 0) (zzb (sq9 (zzh 3 (.v (i1.v)) ty33 zze (zzg 4 92 _ fun _ _ af ag=>qym (k_riTrim ag (hi1.ext af) xq) ?_))))));rintro _ u14 g15 ⟨ac,rfl,ae⟩;refine zzi ⟨33,ac.cs⟩ ty33 ?_;refine zzb (zzd (zzs (sq9 (zza 6 (.adr 1 1) (zzh 7 (.v (ac.m.v)) ty31 zzk (zza 8 (zI ac.m.n) (zza 9 (zB ((ac.m.n:Int)==0)) (zza 5 (zB ((ac.m.n:Int)==0)) (zzb (zzt (b:=(ac.m.n:Int)==0) xj (fun ab=>?_) (fun ab=>?_)))))))))))
 ·have ad:(ac.m.n:Int)=0:=by simpa using ab
  refine sq9 (zza 2 (zI 0) (zzb (zzn (zyt (zzv (ret0 [.int .i64 0] ⟨zzp,trivial⟩ fun u18 e19=>?_))))));show _=_;rw[sign_len ae,if_pos ab]
  rfl
 have ad:¬((ac.m.n:Int)=0):=by simpa using ab
 refine sq9 (zza 11 (.adr 1 0) (zzh 12 (zB ac.s) ty4 zzk (zza 10 (zB ac.s) (zzb (zzt (b:=ac.s) xj (fun aa=>?_) (fun aa=>?_))))))
 ·replace aa:ac.s=true:=aa;refine sq9 (zza 2 (zI (-1)) (zzb (zzn (zyt (zzv (ret0 [.int .i64 (-1)] ⟨zzp,trivial⟩ fun u21 e22=>?_))))));show _=_;rw[sign_len ae,if_neg (ne_true_of_eq_false ab),if_pos aa]
  rfl
 replace aa:ac.s=false:=aa;refine zzr (zzo ?_);refine sq9 (zza 2 (zI 1) (zzb (zzn (ret0 [.int .i64 1] ⟨zzp,trivial⟩ fun u23 e24=>?_))));show _=_;rw[sign_len ae,if_neg (ne_true_of_eq_false ab),if_neg (ne_true_of_eq_false aa)]
 rfl
theorem k_riNeg{u w:World}{i1:IL}{zN:Int}{K:Nat}(d:Dat u w)(hi1:IntV u i1 zN K)(hK:K≤500000000):qyc 96 #[i1.v] w (Post u w fun v u'=>∃i:IL,v=i.v∧IntN u' i (-zN) K):=by
 refine zzl Tryz.func96 rfl Tryz.ntmps96 Tryz.results96 d ?_;refine sq9 (zzj 1 ⟨33,i1.cs⟩ (zzj 2 ⟨33,[.bool false,qyn]⟩ (zzb (sq9 (zzh 3 (.v (i1.v)) ty33 zze (zzg 4 92 _ fun _ _ ad af=>qym (k_riTrim af (hi1.ext ad) xq) ?_))))));rintro _ u14 g15 ⟨aa,rfl,ab⟩;refine zzi ⟨33,aa.cs⟩ ty33 ?_;refine zzb (sq9 (zza 5 (.adr 1 0) (zzh 6 (zB aa.s) ty4 zzk (zza 7 (zB (!aa.s)) ?_))))
 rcases Bool.eq_false_or_eq_true (!aa.s) with hs17|hs17
 ·refine qbi 8 hs17 (zza 9 (.adr 1 1) ?_ (hw:=w1 3 true 8));refine zzh 10 (.v (aa.m.v)) ty31 zzk ?_ (hw:=w1 3 true 8);refine zza 11 (zI aa.m.n) ?_ (hw:=w1 3 true 8);refine zza 12 (zB (decide ((0:Int)<(aa.m.n:Int)))) ?_ (hw:=w1 3 true 8);refine zza 13 (zB (decide ((0:Int)<(aa.m.n:Int)))) (zza 14 (.adr 1 0) (zzi ⟨33,[.bool (decide ((0:Int)<(aa.m.n:Int))),aa.m.v]⟩ ty4 ?_));refine zzb (sq9 (zzh 15 (.v (.agg #[.bool (decide ((0:Int)<(aa.m.n:Int))),aa.m.v])) ty33 zze (zzi ⟨33,[.bool (decide ((0:Int)<(aa.m.n:Int))),aa.m.v]⟩ ty33 ?_)));refine zzb (zzn (ret0 [.agg #[.bool (decide ((0:Int)<(aa.m.n:Int))),aa.m.v]] ⟨zzq ty33 zze,trivial⟩ fun u18 ae=>?_));refine⟨⟨_,aa.m⟩,rfl,?_⟩;have h9:=neg_int (ab.ext ae);rw[hs17] at h9;exact h9
 refine qbi 8 hs17 (zzm 9 (uw 3 true false 8) (zzm 10 (uw 3 true false 8) (zzm 11 (uw 3 true false 8) (zzm 12 (uw 3 true false 8) (zza 13 (zB false) (zza 14 (.adr 1 0) (zzi ⟨33,[.bool false,aa.m.v]⟩ ty4 ?_)))))));refine zzb (sq9 (zzh 15 (.v (.agg #[.bool false,aa.m.v])) ty33 zze (zzi ⟨33,[.bool false,aa.m.v]⟩ ty33 ?_)));refine zzb (zzn (ret0 [.agg #[.bool false,aa.m.v]] ⟨zzq ty33 zze,trivial⟩ fun u20 ac=>?_));refine⟨⟨_,aa.m⟩,rfl,?_⟩;have h9:=neg_int (ab.ext ac);rw[hs17] at h9;exact h9
theorem k_riAbs{u w:World}{i1:IL}{zN:Int}{K:Nat}(d:Dat u w)(hi1:IntV u i1 zN K)(hK:K≤500000000):qyc 85 #[i1.v] w (Post u w fun v u'=>∃i:IL,v=i.v∧IntN u' i (zN.natAbs:Int) K):=by
 refine zzl Tryz.func85 rfl Tryz.ntmps85 Tryz.results85 d ?_;refine sq9 (zzj 1 ⟨33,i1.cs⟩ (zzj 2 ⟨33,[.bool false,qyn]⟩ (zzb (sq9 (zza 3 (.adr 1 1) (zzh 4 (.v (i1.m.v)) ty31 zzk (zzg 5 89 _ fun _ _ ac ad=>qym (k_rnTrim ad ((IntV.abs hi1).ext ac) xq) ?_)))))));rintro _ u14 g15 ⟨aa,rfl,ae⟩;refine zza 6 (.v (.agg #[.bool false,aa.v])) (zzi ⟨33,[.bool false,aa.v]⟩ ty33 ?_);refine zzb (zzn (ret0 [.agg #[.bool false,aa.v]] ⟨zzq ty33 zze,trivial⟩ fun u17 ab=>?_));exact⟨(⟨false,aa⟩:IL),rfl,(nat_intN (ae.ext ab))⟩
theorem k_riAdd{u w:World}{i1:IL}{zN:Int}{K:Nat}{i2:IL}{zM:Int}{L:Nat}(d:Dat u w)(hi1:IntV u i1 zN K)(hi2:IntV u i2 zM L)(hK:K≤400000000)(hL:L≤400000000):qyc 133 #[i1.v,i2.v] w (Post u w fun v u'=>∃i:IL,v=i.v∧IntN u' i (zN+zM) (max K L+1)):=by
 refine zzl Tryz.func133 rfl Tryz.ntmps133 Tryz.results133 d ?_;refine sq9 (zzj 2 ⟨33,i1.cs⟩ (zzj 3 ⟨33,i2.cs⟩ (zzj 4 ⟨33,[.bool false,qyn]⟩ (zzb (zzd (zzy [0,1,0,7,15,31] [(0,[]),(2,[]),(1,[]),(3,[]),(4,[]),(5,[])] xj xj (zzh 5 (.v (i1.v)) ty33 zze (zzh 7 (.v (i2.v)) ty33 zze (zzg 6 92 _ fun _ _ an aS=>qym (k_riTrim aS (hi1.ext an) xq) ?_)))))))));rintro _ u14 aQ ⟨aa,rfl,ae⟩;refine zzg 8 92 _ fun _ _ ah aE=>qym (k_riTrim aE (hi2.ext xe) xq) ?_;rintro _ u20 ai ⟨ab,rfl,af⟩;refine zzi ⟨33,aa.cs⟩ ty33 ?_;refine zzi ⟨33,ab.cs⟩ ty33 ?_;refine zzb (zzd (sq9 (zza 9 (.adr 2 0) (zzh 10 (zB aa.s) ty4 zzk (zza 11 (.adr 3 0) (zzh 12 (zB ab.s) ty4 zzk (zza 13 (zB (aa.s==ab.s)) (zzb (zzt (b:=aa.s==ab.s) xj (fun ad=>?_) (fun ad=>?_))))))))))
 ·refine zzd (zzy [0,1,0,4,0,16,60,127,255,511] [(0,[]),(1,[]),(2,[]),(3,[]),(4,[]),(5,[]),(6,[]),(7,[]),(8,[]),(9,[])] xj xj (zza 14 (.adr 2 0) (zzh 15 (zB aa.s) ty4 zzk (zza 16 (.adr 2 1) (zzh 17 (.v (aa.m.v)) ty31 zzk (zza 18 (.adr 3 1) (zzh 19 (.v (ab.m.v)) ty31 zzk (zzg 20 146 _ fun _ _ ao ar=>qym (k_rnAdd ar ((int_mag ae).ext xe).raw ((int_mag af).ext ao).raw xq xq) ?_))))))));rintro _ u27 g28 ⟨ax,rfl,aJ⟩;refine zza 21 (.v (.agg #[.bool aa.s,ax.v])) (zzg 22 92 _ fun _ _ au ay=>qym (k_riTrim ay (IntV.same (s:=aa.s) (aJ.ext au).raw) xq) ?_);rintro _ u33 g34 ⟨al,rfl,aw⟩;refine zzi ⟨33,al.cs⟩ ty33 ?_;refine zzb (zzn (zzv (ret0 [al.v] ⟨zzq ty33 zze,trivial⟩ fun u36 aI=>?_)));refine⟨al,rfl,IntN.more (K:=(max K L+1)) ?_ xq⟩
  have h9:zN+zM=(Nt.sg aa.s ((zN:Int).natAbs+(zM:Int).natAbs)):=by
   rw[sg_add1 _ _ ad];rw[←IntN.sg ae,←IntN.sg af]
  rw[h9];exact(aw.ext aI)
 refine zzr (zzo ?_);refine zzd (sq9 (zza 23 (.adr 2 1) (zzh 24 (.v (aa.m.v)) ty31 zzk (zza 25 (.adr 3 1) (zzh 26 (.v (ab.m.v)) ty31 zzk (zzg 27 180 _ fun _ _ ag aH=>qym (k_rnCompare aH ((int_mag ae).ext xe).raw ((int_mag af).ext ag).raw xq xq) ?_))))));rintro _ u39 aj rfl;refine zza 28 (zB (decide ((0:Int)≤(cmpS ((zN:Int).natAbs) ((zM:Int).natAbs))))) (zzb (zzt (b:=decide ((0:Int)≤(cmpS ((zN:Int).natAbs) ((zM:Int).natAbs)))) xj (fun ac=>?_) (fun ac=>?_)))
 ·have qhb42:=qyt ac;refine zzd (zzy [0,1,0,4,0,16,60,127,255,511] [(0,[]),(1,[]),(2,[]),(3,[]),(4,[]),(5,[]),(6,[]),(7,[]),(8,[]),(9,[])] xj xj (zza 29 (.adr 2 0) (zzh 30 (zB aa.s) ty4 zzk (zza 31 (.adr 2 1) (zzh 32 (.v (aa.m.v)) ty31 zzk (zza 33 (.adr 3 1) (zzh 34 (.v (ab.m.v)) ty31 zzk (zzg 35 147 _ fun _ _ aq aB=>qym (k_rnSub aB ((int_mag ae).ext xe).raw ((int_mag af).ext xe).raw xq xq) ?_))))))));rintro _ u46 g47 ⟨aF,rfl,aP⟩;refine zza 36 (.v (.agg #[.bool aa.s,aF.v])) (zzg 37 92 _ fun _ _ aA av=>qym (k_riTrim av (IntV.same (s:=aa.s) (aP.ext aA).raw) xq) ?_);rintro _ u52 g53 ⟨ak,rfl,aD⟩;refine zzi ⟨33,ak.cs⟩ ty33 ?_;refine zzb (zzn (zzv (ret0 [ak.v] ⟨zzq ty33 zze,trivial⟩ fun u55 aN=>?_)));refine⟨ak,rfl,IntN.more (K:=K) ?_ xq⟩
  have h9:zN+zM=(Nt.sg aa.s ((zN:Int).natAbs-(zM:Int).natAbs)):=by
   rw[sg_add4 _ _ ad ac];rw[←IntN.sg ae,←IntN.sg af]
  rw[h9];exact(aD.ext aN)
 have qhb42:=qyf ac;refine zzr (zzo ?_);refine zzd (zzy [0,1,0,4,0,16,60,127,255,511] [(0,[]),(1,[]),(2,[]),(3,[]),(4,[]),(5,[]),(6,[]),(7,[]),(8,[]),(9,[])] xj xj (zza 38 (.adr 3 0) (zzh 39 (zB ab.s) ty4 zzk (zza 40 (.adr 3 1) (zzh 41 (.v (ab.m.v)) ty31 zzk (zza 42 (.adr 2 1) (zzh 43 (.v (aa.m.v)) ty31 zzk (zzg 44 147 _ fun _ _ ap aL=>qym (k_rnSub aL ((int_mag af).ext xe).raw ((int_mag ae).ext xe).raw xq xq) ?_))))))));rintro _ u60 g61 ⟨aK,rfl,aM⟩;refine zza 45 (.v (.agg #[.bool ab.s,aK.v])) (zzg 46 92 _ fun _ _ aR aG=>qym (k_riTrim aG (IntV.same (s:=ab.s) (aM.ext aR).raw) xq) ?_);rintro _ u66 g67 ⟨am,rfl,aO⟩;refine zzi ⟨33,am.cs⟩ ty33 ?_;refine zzb (zzn (ret0 [am.v] ⟨zzq ty33 zze,trivial⟩ fun u69 az=>?_));refine⟨am,rfl,IntN.more (K:=L) ?_ xq⟩
 have h9:zN+zM=(Nt.sg ab.s ((zM:Int).natAbs-(zN:Int).natAbs)):=by
  rw[sg_add5 _ _ ad ac];rw[←IntN.sg ae,←IntN.sg af]
 rw[h9];exact(aO.ext az)
theorem k_riSub{u w:World}{i1:IL}{zN:Int}{K:Nat}{i2:IL}{zM:Int}{L:Nat}(d:Dat u w)(hi1:IntV u i1 zN K)(hi2:IntV u i2 zM L)(hK:K≤400000000)(hL:L≤400000000):qyc 91 #[i1.v,i2.v] w (Post u w fun v u'=>∃i:IL,v=i.v∧IntN u' i (zN-zM) (max K L+1)):=by
 refine zzl Tryz.func91 rfl Tryz.ntmps91 Tryz.results91 d ?_;refine sq9 (zzj 2 ⟨33,i1.cs⟩ (zzj 3 ⟨33,i2.cs⟩ (zzj 4 ⟨33,[.bool false,qyn]⟩ (zzb (zzd (zzy [0,0,2,7,15] [(0,[]),(1,[]),(2,[]),(3,[]),(4,[])] xj xj (zzh 5 (.v (i1.v)) ty33 zze (zzh 6 (.v (i2.v)) ty33 zze (zzg 7 96 _ fun _ _ ab ag=>qym (k_riNeg ag (hi2.ext ab) xq) ?_)))))))));rintro _ u14 ad ⟨i12,rfl,ah⟩;refine zzg 8 133 _ fun _ _ ac af=>qym (k_riAdd af (hi1.ext xe) (ah.ext ac).raw xq xq) ?_;rintro _ u20 g21 ⟨aa,rfl,ae⟩;refine zzi ⟨33,aa.cs⟩ ty33 ?_;refine zzb (zzn (ret0 [aa.v] ⟨zzq ty33 zze,trivial⟩ fun u23 ai=>?_));refine⟨aa,rfl,?_⟩;rw[Int.sub_eq_add_neg];exact(ae.ext ai)
theorem k_riCompare{u w:World}{i1:IL}{zN:Int}{K:Nat}{i2:IL}{zM:Int}{L:Nat}(d:Dat u w)(hi1:IntV u i1 zN K)(hi2:IntV u i2 zM L)(hK:K≤400000000)(hL:L≤400000000):qyc 42 #[i1.v,i2.v] w (Post u w fun v u'=>v=.int .i64 (cmpS zN zM)):=by
 refine zzl Tryz.func42 rfl Tryz.ntmps42 Tryz.results42 d ?_;refine sq9 (zzj 2 ⟨33,i1.cs⟩ (zzj 3 ⟨33,i2.cs⟩ (zza 4 (zI 0) (zzb (sq9 (zzh 5 (.v (i1.v)) ty33 zze (zzh 6 (.v (i2.v)) ty33 zze (zzg 7 91 _ fun _ _ aa ad=>qym (k_riSub ad (hi1.ext aa) (hi2.ext aa) xq xq) ?_))))))));rintro _ u14 g15 ⟨i12,rfl,ae⟩;refine zzg 8 90 _ fun _ _ ac ab=>qym (k_riSign ab (ae.ext ac).raw xq) ?_;rintro _ u18 g19 rfl;refine zza 4 (zI (cmpS (zN-zM) 0)) (zzb (zzn (ret0 [.int .i64 (cmpS (zN-zM) 0)] ⟨zzp,trivial⟩ fun u21 e22=>?_)));show Value.int _ _=Value.int _ _;rw[cmp_self_sub]
theorem k_riMul{u w:World}{i1:IL}{zN:Int}{K:Nat}{i2:IL}{zM:Int}{L:Nat}(d:Dat u w)(hi1:IntV u i1 zN K)(hi2:IntV u i2 zM L)(hK:K≤250000000)(hL:L≤250000000):qyc 43 #[i1.v,i2.v] w (Post u w fun v u'=>∃i:IL,v=i.v∧IntN u' i (zN*zM) (K+L)):=by
 obtain⟨N,hN,hzN⟩:=hi1;obtain⟨M,hM,hzM⟩:=hi2;refine zzl Tryz.func43 rfl Tryz.ntmps43 Tryz.results43 d ?_;refine sq9 (zzj 2 ⟨33,i1.cs⟩ (zzj 3 ⟨33,i2.cs⟩ (zzj 4 ⟨33,[.bool false,qyn]⟩ (zzb (zzd (zzy [0,1,0,4,15,0,32,0,128,480,1023,2047,4095] [(0,[]),(1,[]),(2,[]),(3,[]),(4,[]),(5,[]),(6,[]),(7,[]),(8,[]),(9,[]),(10,[]),(11,[]),(12,[])] xj xj (zza 5 (.adr 2 0) (zzh 6 (zB i1.s) ty4 zzk (zza 7 (.adr 3 0) (zzh 8 (zB i2.s) ty4 zzk (zza 9 (zB (!(i1.s==i2.s))) ?_)))))))))));refine zza 10 (.adr 2 1) (zzh 11 (.v (i1.m.v)) ty31 zzk (zza 12 (.adr 3 1) (zzh 13 (.v (i2.m.v)) ty31 zzk (zzg 14 93 _ fun _ _ ab ag=>qym (k_rnMul ag (hN.ext ab) (hM.ext ab) xq xq) ?_))));rintro _ u14 g15 ⟨ac,rfl,ah⟩;refine zza 15 (.v (.agg #[.bool (!(i1.s==i2.s)),ac.v])) (zzg 16 92 _ fun _ _ af ae=>qym (k_riTrim ae (IntV.same (s := !(i1.s==i2.s)) (ah.ext af).raw) xq) ?_);rintro _ u20 g21 ⟨aa,rfl,ad⟩;refine zzi ⟨33,aa.cs⟩ ty33 ?_;refine zzb (zzn (ret0 [aa.v] ⟨zzq ty33 zze,trivial⟩ fun u23 ai=>?_));refine⟨aa,rfl,IntN.more (K:=(K+L)) ?_ xq⟩;rw[hzN,hzM,←sg_mul];exact(ad.ext ai)
theorem k_riGcd{u w:World}{i1:IL}{zN:Int}{K:Nat}{i2:IL}{zM:Int}{L:Nat}(d:Dat u w)(hi1:IntV u i1 zN K)(hi2:IntV u i2 zM L)(hK:K≤500000000)(hL:L≤500000000):qyc 94 #[i1.v,i2.v] w (Post u w fun v u'=>∃i:IL,v=i.v∧IntN u' i (Nat.gcd zN.natAbs zM.natAbs:Int) (max K L)):=by
 refine zzl Tryz.func94 rfl Tryz.ntmps94 Tryz.results94 d ?_;refine sq9 (zzj 2 ⟨33,i1.cs⟩ (zzj 3 ⟨33,i2.cs⟩ (zzj 4 ⟨33,[.bool false,qyn]⟩ (zzb (sq9 (zza 5 (.adr 2 1) (zzh 6 (.v (i1.m.v)) ty31 zzk (zza 7 (.adr 3 1) (zzh 8 (.v (i2.m.v)) ty31 zzk (zzg 9 144 _ fun _ _ ab ad=>qym (k_rnGcd ad ((IntV.abs hi1).ext ab) ((IntV.abs hi2).ext ab) xq xq) ?_))))))))));rintro _ u14 g15 ⟨aa,rfl,ae⟩;refine zza 10 (.v (.agg #[.bool false,aa.v])) (zzi ⟨33,[.bool false,aa.v]⟩ ty33 ?_);refine zzb (zzn (ret0 [.agg #[.bool false,aa.v]] ⟨zzq ty33 zze,trivial⟩ fun u17 ac=>?_));exact⟨(⟨false,aa⟩:IL),rfl,(nat_intN (ae.ext ac))⟩
theorem k_riOf{u w:World}{z:Int}(d:Dat u w)(h0:-9223372036854775808≤z)(h1:z≤9223372036854775807):qyc 45 #[.int .i64 z] w (Post u w fun v u'=>∃i:IL,v=i.v∧IntN u' i z 2):=by
 by_cases hneg:z<0
 ·refine zzl Tryz.func45 rfl Tryz.ntmps45 Tryz.results45 d ?_;refine sq9 (zzj 2 ⟨33,[.bool false,qyn]⟩ (zzb (zzd (sq9 (zza 4 (zI z) (zqB 5 (show(decide (z<0))=true from yw) (zzb (zyq xj (sq9 (zza 6 (zI z) (zqI 7 (show(IntKind.i64.wrap (z+1))=(z+1) from(IntWalk.i64_in _ xq)) ?_)))))))))));refine zqI 8 (show(IntKind.i64.wrap (0-(z+1)))=(-z-1) from xk) (zyp 9 (x:=.v (.int .u64 (IntKind.u64.wrap (-z-1)))) (.v (.int .u64 (-z-1))) (by rw[show(IntKind.u64.wrap (-z-1))=(-z-1) from(IntWalk.u64_in _ xq)]) (zyp 10 (x:=.v (.int .u64 (IntKind.u64.wrap (-z-1+1)))) (.v (.int .u64 (-z))) (by rw[show(IntKind.u64.wrap (-z-1+1))=(-z) from(by rw[IntWalk.u64_in _ xq];omega)]) (zza 3 (.v (.int .u64 (-z))) (zzb (sq9 (zza 11 (.v (.int .u64 (-z))) (zyp 12 (x:=.v (.int .u32 (IntKind.u32.wrap (-z)))) (.v (.int .u32 ((-z)%4294967296))) (by rw[show(IntKind.u32.wrap (-z))=((-z)%4294967296) from(IntKind.wrap_u32 _)]) (zza 13 (.v (.int .u64 (-z))) (zyp 14 (x:=.v (.int .u64 (Int.fdiv (-z) (2^32)))) (.v (.int .u64 ((-z)/4294967296))) (by rw[show(Int.fdiv (-z) (2^32))=((-z)/4294967296) from(by rw[Int.fdiv_eq_ediv_of_nonneg _ xw];rfl)]) (zyp 15 (x:=.v (.int .u32 (IntKind.u32.wrap ((-z)/4294967296)))) (.v (.int .u32 ((-z)/4294967296))) (by rw[show(IntKind.u32.wrap ((-z)/4294967296))=((-z)/4294967296) from(IntWalk.u32_in _ xq)]) (zxw 16 ⟨77,[.int .u32 ((-z)%4294967296),.int .u32 ((-z)/4294967296)]⟩ 2 (fun ab ai ah af=>?_))))))))))));refine zza 17 (.v (.agg #[.bool true,.slice (some ⟨ab,0,none⟩) 2 2])) (zzg 18 92 [.agg #[.bool true,.slice (some ⟨ab,0,none⟩) 2 2]] ?_);intro w15 u15 ad ae;have k20:=k_riTrim ae (IntV.same (s:=true) ((two_data (N:=z.natAbs) af xq xq xq).ext ad)) xq
  with_reducible refine zPm k20 ?_
  rintro _ ak aj ⟨aa,rfl,ag⟩;refine zzi ⟨33,aa.cs⟩ ty33 ?_;refine zzb (zzn (zzv (ret0 [aa.v] ⟨zzq ty33 zze,trivial⟩ fun al ac=>?_)));refine⟨aa,rfl,IntN.more (K:=2) ?_ xq⟩;have e:z=Nt.sg true z.natAbs:=by unfold Nt.sg;simp;omega
  rw[e];exact(ag.ext ac)
 refine zzl Tryz.func45 rfl Tryz.ntmps45 Tryz.results45 d ?_;refine sq9 (zzj 2 ⟨33,[.bool false,qyn]⟩ (zzb (zzd (sq9 (zza 4 (zI z) (zqB 5 (show(decide (z<0))=false from yw) (zzb (zyr xj (zzr (zzo ?_))))))))));refine sq9 (zza 19 (zI z) (zyp 20 (x:=.v (.int .u32 (IntKind.u32.wrap z))) (.v (.int .u32 (z%4294967296))) (by rw[show(IntKind.u32.wrap z)=(z%4294967296) from(IntKind.wrap_u32 _)]) (zza 21 (zI z) (zyp 22 (x:=.v (.int .u64 (IntKind.u64.wrap z))) (.v (.int .u64 (z))) (by rw[show(IntKind.u64.wrap z)=z from(IntWalk.u64_in _ xq)]) (zyp 23 (x:=.v (.int .u64 (Int.fdiv z (2^32)))) (.v (.int .u64 (z/4294967296))) (by rw[show(Int.fdiv z (2^32))=(z/4294967296) from(by rw[Int.fdiv_eq_ediv_of_nonneg _ xw];rfl)]) (zyp 24 (x:=.v (.int .u32 (IntKind.u32.wrap (z/4294967296)))) (.v (.int .u32 (z/4294967296))) (by rw[show(IntKind.u32.wrap (z/4294967296))=(z/4294967296) from(IntWalk.u32_in _ xq)]) (zxw 25 ⟨77,[.int .u32 (z%4294967296),.int .u32 (z/4294967296)]⟩ 2 (fun ab ai ah af=>?_))))))));refine zza 26 (.v (.agg #[.bool false,.slice (some ⟨ab,0,none⟩) 2 2])) (zzg 27 92 _ fun _ _ ad ae=>qym (k_riTrim ae (nat_int ((two_data (N:=z.natAbs) af xq xq xq).ext ad)) xq) ?_);rintro _ ak aj ⟨aa,rfl,ag⟩;refine zzi ⟨33,aa.cs⟩ ty33 ?_;refine zzb (zzn (ret0 [aa.v] ⟨zzq ty33 zze,trivial⟩ fun al ac=>?_));refine⟨aa,rfl,IntN.more (K:=2) ?_ xq⟩;have e:z=Nt.sg false z.natAbs:=by unfold Nt.sg;simp;omega
 rw[e];exact(ag.ext ac)
theorem k_riDiv{u w:World}{i1:IL}{zN:Int}{K:Nat}{i2:IL}{zM:Int}{L:Nat}(d:Dat u w)(hi1:IntV u i1 zN K)(hi2:IntV u i2 zM L)(hM0:zM≠0)(hK:K≤400000000)(hL:L≤400000000):qyc 95 #[i1.v,i2.v] w (Post u w fun v u'=>∃i j:IL,v=.tuple #[i.v,j.v,.int .i64 0]∧IntN u' i (zN/zM) (K+1)∧IntN u' j (zN%zM) L):=by
 have hM:0<zM.natAbs:=Int.natAbs_pos.2 hM0;have hL1:1≤L:=by have h2:=hi2.size;have h3:=dl_mono (x:=zM.natAbs) (y:=1) xq;rw[dl_one] at h3;omega
 refine zzl Tryz.func95 rfl Tryz.ntmps95 Tryz.results95 d ?_;refine sq9 (zzj 2 ⟨33,i1.cs⟩ (zzj 3 ⟨33,i2.cs⟩ (zzj 4 ⟨33,[.bool false,qyn]⟩ (zzj 5 ⟨33,[.bool false,qyn]⟩ (zza 6 (zI 0) (zzb (zzd (zzy [0,1,0,7,15,31] [(0,[]),(2,[]),(1,[]),(3,[]),(4,[]),(5,[])] xj xj (zzh 10 (.v (i1.v)) ty33 zze (zzh 12 (.v (i2.v)) ty33 zze (zzg 11 92 _ fun _ _ au aX=>qym (k_riTrim aX (hi1.ext au) xq) ?_)))))))))));rintro _ u14 aW ⟨ab,rfl,aj⟩;refine zzg 13 92 _ fun _ _ aB aI=>qym (k_riTrim aI (hi2.ext xe) xq) ?_;rintro _ u20 aJ ⟨ac,rfl,ai⟩;refine zzi ⟨33,ab.cs⟩ ty33 ?_;refine zzi ⟨33,ac.cs⟩ ty33 ?_;refine zzb (sq9 (zza 15 (.adr 2 1) (zzh 16 (.v (ab.m.v)) ty31 zzk (zza 17 (.adr 3 1) (zzh 18 (.v (ac.m.v)) ty31 zzk (zzg 19 145 _ fun _ _ al aP=>qym (k_rnDivMod aP ((int_mag aj).ext xe).raw ((int_mag ai).ext al).raw hM xq xq) ?_))))));rintro _ u28 aZ ⟨ae,aa,rfl,an,ah⟩;refine zza 14 (.v (.tuple #[ae.v,aa.v,.int .i64 0])) (zza 20 (.v (ae.v)) (zza 21 (.v (aa.v)) (zza 22 (zI 0) (zza 7 (.v (ae.v)) (zza 8 (.v (aa.v)) (zza 9 (zI 0) (zzb (zzd (sq9 (zza 23 (zI 0) (zza 24 (zB false) ?_)))))))))));refine zzb (zyr xj (zzr (zzo ?_)));refine zzd (sq9 (zza 28 (.adr 2 0) (zzh 29 (zB ab.s) ty4 zzk ?_)))
 rcases Bool.eq_false_or_eq_true ab.s with hs31|hs31
 ·refine qbi 30 hs31 (zza 31 (.v (aa.v)) ?_ (hw:=w1 2 true 30));refine zza 32 (zI aa.n) ?_ (hw:=w1 2 true 30);refine zza 33 (zB (decide ((0:Int)<(aa.n:Int)))) ?_ (hw:=w1 2 true 30);refine zza 34 (zB (decide ((0:Int)<(aa.n:Int)))) (zzc 52 [(2,.adr 2 0),(3,.adr 3 0),(4,.adr 4 0),(5,.adr 5 0),(7,.v (ae.v)),(8,.v (aa.v)),(34,zB (decide ((0:Int)<(aa.n:Int))))] [(2,⟨33,ab.cs⟩),(3,⟨33,ac.cs⟩),(4,⟨33,[.bool false,qyn]⟩),(5,⟨33,[.bool false,qyn]⟩)] (zzt (b:=decide ((0:Int)<(aa.n:Int))) xj (fun ad=>?_) (fun ad=>?_)))
  ·have qhb32:=qyt ad;refine zzy [0,0,3,0,8,0,63,127,255] [(0,[]),(1,[]),(3,[]),(4,[]),(5,[]),(2,[36]),(6,[]),(7,[]),(8,[])] xj xj (zza 35 (.v (ae.v)) (sy_lit 36 ⟨77,[.int .u32 1]⟩ 1 ?_));refine zza 38 (.adr 3 1) (zzh 39 (.v (ac.m.v)) ty31 zzk (zza 40 (.v (aa.v)) (zyn 37 146 [.v (ae.v),.slc 36 0 1 1] [36] (.inr rfl) (pub_mk xz) (k:=?_))));intro am w33 aV ak aY aS;have aA:aV.heap[am 36]? = some (.cells #[.int .u32 1] 77 (0,0)):=aS 36 (by simp) _ rfl;obtain⟨b34,af⟩:∃b,am 36=b:=⟨_,rfl⟩
   rw[af] at aA;show Calls _ _ #[.slice ae.a ae.n ae.c,.slice (some ⟨am 36,0,none⟩) 1 1] _ _;rw[af];have k40:=k_rnAdd aY (an.ext ak).raw (one_data aA).raw xq xq
   with_reducible refine zPm k40 ?_
   rintro _ u38 av ⟨ap,rfl,aO⟩;refine zzg 41 147 _ fun _ _ ar aN=>qym (k_rnSub aN ((int_mag ai).ext xe).raw (ah.ext xe).raw xq xq) ?_;rintro _ u44 aQ ⟨ag,rfl,aR⟩;refine zza 7 (.v (ap.v)) (zza 8 (.v (ag.v)) (zzb (sq9 (zza 42 (.adr 2 0) (zzh 43 (zB ab.s) ty4 zzk (zza 44 (.adr 3 0) (zzh 45 (zB ac.s) ty4 zzk (zza 46 (zB (!(ab.s==ac.s))) (zza 47 (.v (ap.v)) (zza 48 (.v (.agg #[.bool (!(ab.s==ac.s)),ap.v])) (zzg 49 92 _ fun _ _ aD aH=>qym (k_riTrim aH (IntV.same (s := !(ab.s==ac.s)) (aO.ext xe).raw) xq) ?_)))))))))));rintro _ u50 aL ⟨aq,rfl,aG⟩;refine zza 50 (.v (ag.v)) (zza 51 (.v (.agg #[.bool false,ag.v])) (zzi ⟨33,aq.cs⟩ ty33 ?_));refine zzi ⟨33,[.bool false,ag.v]⟩ ty33 ?_;refine zza 6 (zI 0) (zzb (zzn (ret0 [aq.v,.agg #[.bool false,ag.v],.int .i64 0] ⟨zzq ty33 zze,zzq ty33 zze,zzp,trivial⟩ fun u53 ay=>?_)));have hs:=aj.1;have ht:=ai.1;have hr:=ah.pos;have qhs31:=hs31;have qhb32:=ad;have key:=ediv_neg' zN zM rfl rfl hM (by rw[hs] at hs31;simpa using hs31) (by simp at ad;omega);have hK1:1≤K:=by have h2:=hi1.size;have h3:=(dl_pos (x:=zN.natAbs)).2 (by rw[hs] at hs31;simp at hs31;omega);omega
   rw[←hs,←ht] at key;refine⟨aq,(⟨false,ag⟩:IL),rfl,IntN.more (K:=(max K 1+1)) ?_ xq,IntN.more (K:=L) ?_ xq⟩
   ·rw[key.1];exact(aG.ext ay)
   rw[key.2];exact(nat_intN (aR.ext (aD.t (aL.t ay))))
  have qhb32:=qyf ad;refine zzr (zzo ?_);refine sq9 (zza 42 (.adr 2 0) (zzh 43 (zB ab.s) ty4 zzk (zza 44 (.adr 3 0) (zzh 45 (zB ac.s) ty4 zzk (zza 46 (zB (!(ab.s==ac.s))) (zza 47 (.v (ae.v)) (zza 48 (.v (.agg #[.bool (!(ab.s==ac.s)),ae.v])) (zzg 49 92 _ fun _ _ ax aU=>qym (k_riTrim aU (IntV.same (s := !(ab.s==ac.s)) (an.ext ax).raw) xq) ?_))))))));rintro _ u58 aF ⟨ao,rfl,aK⟩;refine zza 50 (.v (aa.v)) (zza 51 (.v (.agg #[.bool false,aa.v])) (zzi ⟨33,ao.cs⟩ ty33 ?_));refine zzi ⟨33,[.bool false,aa.v]⟩ ty33 ?_;refine zza 6 (zI 0) (zzb (zzn (ret0 [ao.v,.agg #[.bool false,aa.v],.int .i64 0] ⟨zzq ty33 zze,zzq ty33 zze,zzp,trivial⟩ fun u61 az=>?_)));have hs:=aj.1;have ht:=ai.1;have hr:=ah.pos;have qhs31:=hs31;have qhb32:=ad;have key:=ediv_pos zN zM rfl rfl hM (fun hc=>by simp at ad;omega);rw[←hs,←ht] at key;refine⟨ao,(⟨false,aa⟩:IL),rfl,IntN.more (K:=K) ?_ xq,IntN.more (K:=L) ?_ xq⟩
  ·rw[key.1];exact(aK.ext az)
  rw[key.2];exact(nat_intN (ah.ext (ax.t (aF.t az))))
 refine qbi 30 hs31 (zzm 31 (uw 2 true false 30) (zzm 32 (uw 2 true false 30) (zzm 33 (uw 2 true false 30) (zza 34 (zB false) (zzc 52 [(2,.adr 2 0),(3,.adr 3 0),(4,.adr 4 0),(5,.adr 5 0),(7,.v (ae.v)),(8,.v (aa.v)),(34,zB false)] [(2,⟨33,ab.cs⟩),(3,⟨33,ac.cs⟩),(4,⟨33,[.bool false,qyn]⟩),(5,⟨33,[.bool false,qyn]⟩)] (zyr xj (zzr (zzo ?_))))))));refine sq9 (zza 42 (.adr 2 0) (zzh 43 (zB ab.s) ty4 zzk (zza 44 (.adr 3 0) (zzh 45 (zB ac.s) ty4 zzk (zza 46 (zB (!(ab.s==ac.s))) (zza 47 (.v (ae.v)) (zza 48 (.v (.agg #[.bool (!(ab.s==ac.s)),ae.v])) (zzg 49 92 _ fun _ _ aE aM=>qym (k_riTrim aM (IntV.same (s := !(ab.s==ac.s)) (an.ext aE).raw) xq) ?_))))))));rintro _ u66 a0 ⟨i64,rfl,aT⟩;refine zza 50 (.v (aa.v)) (zza 51 (.v (.agg #[.bool false,aa.v])) (zzi ⟨33,i64.cs⟩ ty33 ?_));refine zzi ⟨33,[.bool false,aa.v]⟩ ty33 ?_;refine zza 6 (zI 0) (zzb (zzn (ret0 [i64.v,.agg #[.bool false,aa.v],.int .i64 0] ⟨zzq ty33 zze,zzq ty33 zze,zzp,trivial⟩ fun u69 aw=>?_)));have hs:=aj.1;have ht:=ai.1;have hr:=ah.pos;have qhs31:=hs31;have key:=ediv_pos zN zM rfl rfl hM (fun hc=>by rw[hs] at hs31;simp at hs31;omega);rw[←hs,←ht] at key;refine⟨i64,(⟨false,aa⟩:IL),rfl,IntN.more (K:=K) ?_ xq,IntN.more (K:=L) ?_ xq⟩
 ·rw[key.1];exact(aT.ext aw)
 rw[key.2];exact(nat_intN (ah.ext (aE.t (a0.t aw))))
theorem k_reduce{u w:World}{i1 i2:IL}{z y:Int}{K L:Nat}(d:Dat u w)(hi1:IntV u i1 z K)(hi2:IntV u i2 y L)(hK:K≤400000000)(hL:L≤400000000):qyc 44 #[i1.v,i2.v] w (Post u w fun v u'=>∃r:RL,v=r.v∧RatN u' r ((z:Rat)/(y:Rat)) (max K L+1)):=by
 refine zzl Tryz.func44 rfl Tryz.ntmps44 Tryz.results44 d ?_;refine sq9 (zzj 2 ⟨33,i1.cs⟩ (zzj 3 ⟨33,i2.cs⟩ (zzj 4 ⟨35,zw3⟩ (zzb (zzd (sq9 (zzh 12 (.v (i1.v)) ty33 zze (zzg 13 90 _ fun _ _ af aP=>qym (k_riSign aP (hi1.ext af) xq) ?_))))))));rintro _ u12 ah rfl;refine zza 14 (zB ((cmpS z 0)==0)) ?_
 rcases Bool.eq_false_or_eq_true ((cmpS z 0)==0) with hs15|hs15
 ·refine qbi 15 hs15 ?_;have aB:z=0:=cmp_eq0 hs15;refine zzm 16 (uw 3 false true 15) (zzm 17 (uw 3 false true 15) (zzm 18 (uw 3 false true 15) (zza 19 (zB true) (zzb (zyq xj (sq9 (zxw 20 ⟨77,[.int .u32 1]⟩ 1 (fun aj u17 e18 aI=>?_))))))));refine zza 21 (.v (.agg #[.bool false,qyn,.slice (some ⟨aj,0,none⟩) 1 1])) (zzi ⟨35,[.bool false,qyn,.slice (some ⟨aj,0,none⟩) 1 1]⟩ ty35 ?_);refine zzb (zzn (zzv (ret0 [.agg #[.bool false,qyn,.slice (some ⟨aj,0,none⟩) 1 1]] ⟨zzq ty35 zze,trivial⟩ fun u20 aG=>?_)));refine⟨(⟨false,⟨none,0,0⟩,(⟨some ⟨aj,0,none⟩,1,1⟩:Sl)⟩:RL),rfl,?_⟩;have h9:(z:Rat)/(y:Rat)=((0:Int):Rat):=by rw[aB];simp[Rat.div_def]
  rw[h9];exact RatN.more (whole_rat (int_zero _ 1) ((one_data aI).ext aG)) xq
 refine qbi 15 hs15 ?_;have aB:z≠0:=cmp_ne0 hs15;refine zzh 16 (.v (i2.v)) ty33 zze ?_ (hw:=w1 3 false 15);refine zzg 17 90 _ (fun _ _ ai aM=>qym (k_riSign aM (hi2.ext xe) xq) ?_) (hw:=w1 3 false 15);rintro _ u23 ao rfl;refine zza 18 (zB ((cmpS y 0)==0)) ?_ (hw:=w1 3 false 15);refine zza 19 (zB ((cmpS y 0)==0)) (zzb (zzt (b:=(cmpS y 0)==0) xj (fun ae=>?_) (fun ae=>?_)))
 ·have ag:y=0:=cmp_eq0 ae;refine sq9 (zxw 20 ⟨77,[.int .u32 1]⟩ 1 (fun am u28 e29 aK=>?_));refine zza 21 (.v (.agg #[.bool false,qyn,.slice (some ⟨am,0,none⟩) 1 1])) (zzi ⟨35,[.bool false,qyn,.slice (some ⟨am,0,none⟩) 1 1]⟩ ty35 ?_);refine zzb (zzn (zzv (ret0 [.agg #[.bool false,qyn,.slice (some ⟨am,0,none⟩) 1 1]] ⟨zzq ty35 zze,trivial⟩ fun u31 aJ=>?_)));refine⟨(⟨false,⟨none,0,0⟩,(⟨some ⟨am,0,none⟩,1,1⟩:Sl)⟩:RL),rfl,?_⟩;have h9:(z:Rat)/(y:Rat)=((0:Int):Rat):=by rw[ag];simp[Rat.div_def]
  rw[h9];exact RatN.more (whole_rat (int_zero _ 1) ((one_data aK).ext aJ)) xq
 have ag:y≠0:=cmp_ne0 ae;have aw:((Nat.gcd z.natAbs y.natAbs:Nat):Int)≠0:=by have h9:=Nat.gcd_pos_of_pos_right z.natAbs (Int.natAbs_pos.2 ag);omega
 refine zzr (zzo ?_);refine sq9 (zzh 22 (.v (i1.v)) ty33 zze (zzh 23 (.v (i2.v)) ty33 zze (zzg 24 94 _ fun _ _ ak aQ=>qym (k_riGcd aQ (hi1.ext xe) (hi2.ext xe) xq xq) ?_)));rintro _ u36 av ⟨au,rfl,ax⟩;refine zzj 5 ⟨33,[.bool false,qyn]⟩ (zzi ⟨33,au.cs⟩ ty33 ?_);refine zzb (sq9 (zzh 26 (.v (i1.v)) ty33 zze (zzh 27 (.v (au.v)) ty33 zze (zzg 28 95 _ fun _ _ ap aO=>qym (k_riDiv aO (hi1.ext xe) (ax.ext ap).raw aw xq xq) ?_))));rintro _ u44 ay ⟨ac,ar,rfl,aD,h43⟩;refine zza 25 (.v (.tuple #[ac.v,ar.v,.int .i64 0])) (zza 29 (.v (ac.v)) (zza 30 (.v (ar.v)) (zza 31 (zI 0) (zzj 6 ⟨33,[.bool false,qyn]⟩ (zzj 7 ⟨33,[.bool false,qyn]⟩ (zzi ⟨33,ac.cs⟩ ty33 ?_))))));refine zzi ⟨33,ar.cs⟩ ty33 ?_;refine zza 8 (zI 0) (zzb (sq9 (zzh 33 (.v (i2.v)) ty33 zze (zzh 34 (.v (au.v)) ty33 zze (zzg 35 95 _ fun _ _ an aR=>qym (k_riDiv aR (hi2.ext xe) (ax.ext xe).raw aw xq xq) ?_)))));rintro _ u52 az ⟨aa,aq,rfl,al,h51⟩;refine zza 32 (.v (.tuple #[aa.v,aq.v,.int .i64 0])) (zza 36 (.v (aa.v)) (zza 37 (.v (aq.v)) (zza 38 (zI 0) (zzj 9 ⟨33,[.bool false,qyn]⟩ (zzj 10 ⟨33,[.bool false,qyn]⟩ (zzi ⟨33,aa.cs⟩ ty33 ?_))))));refine zzi ⟨33,aq.cs⟩ ty33 ?_;refine zza 11 (zI 0) (zzc 47 [(4,.adr 4 0),(6,.adr 6 0),(9,.adr 9 0)] [(4,⟨35,zw3⟩),(6,⟨33,ac.cs⟩),(9,⟨33,aa.cs⟩)] (zzd (sq9 (zza 39 (.adr 9 0) (zzh 40 (zB aa.s) ty4 zzk (zzb (zzt (b:=aa.s) xj (fun ab=>?_) (fun ab=>?_))))))))
 ·replace ab:aa.s=true:=ab;refine zzf (zzh 41 (.v (ac.v)) ty33 zze (zzg 42 96 _ fun _ _ aA aN=>qym (k_riNeg aN (aD.ext xe).raw xq) ?_));rintro _ u59 aL ⟨ad,rfl,aH⟩;refine zzi ⟨33,ad.cs⟩ ty33 ?_;refine zzb (sq9 (zzh 43 (.v (ad.v)) ty33 zze (zza 44 (.adr 9 1) (zzh 45 (.v (aa.m.v)) ty31 zzk (zza 46 (.v (.agg #[.bool ad.s,ad.m.v,aa.m.v])) (zzi ⟨35,ad.cs++[aa.m.v]⟩ ty35 ?_))))));refine zzb (zzn (ret0 [.agg #[.bool ad.s,ad.m.v,aa.m.v]] ⟨zzq ty35 zze,trivial⟩ fun u62 aE=>?_));refine⟨(⟨ad.s,ad.m,aa.m⟩:RL),rfl,RatN.more (red_neg ag rfl (aH.ext aE) al ab ((int_mag al).ext xe)) xq⟩
 replace ab:aa.s=false:=ab;refine zzr (zzo ?_);refine sq9 (zzh 43 (.v (ac.v)) ty33 zze (zza 44 (.adr 9 1) (zzh 45 (.v (aa.m.v)) ty31 zzk (zza 46 (.v (.agg #[.bool ac.s,ac.m.v,aa.m.v])) (zzi ⟨35,ac.cs++[aa.m.v]⟩ ty35 ?_)))));refine zzb (zzn (ret0 [.agg #[.bool ac.s,ac.m.v,aa.m.v]] ⟨zzq ty35 zze,trivial⟩ fun u64 aF=>?_));refine⟨(⟨ac.s,ac.m,aa.m⟩:RL),rfl,RatN.more (red_pos ag rfl (aD.ext xe) al ab ((int_mag al).ext aF)) xq⟩
theorem k_parts{u w:World}{r:RL}{q:Rat}{K:Nat}(d:Dat u w)(h:RatV u r q K)(hKK:K≤400000000):qyc 41 #[r.v] w (Post u w (PartV q K)):=by
 obtain⟨⟨z,D,hi,hd,hq⟩,hK⟩:=h
 change IntV u ⟨r.s,r.m⟩ z K at hi
 change NatV u r.d D K at hd
 refine zzl Tryz.func41 rfl Tryz.ntmps41 Tryz.results41 d ?_;refine sq9 (zzj 1 ⟨35,r.cs⟩ (zzj 2 ⟨33,[.bool false,qyn]⟩ (zzj 3 ⟨33,[.bool false,qyn]⟩ (zzb (sq9 (zza 5 (.adr 1 2) (zzh 6 (.v (r.d.v)) ty31 zzk (zzg 7 89 _ fun _ _ af aj=>qym (k_rnTrim aj (hd.ext af) xq) ?_))))))));rintro _ u14 ah ⟨aa,rfl,ae⟩;refine zza 8 (.v (.agg #[.bool false,aa.v])) (zzj 4 ⟨33,[.bool false,qyn]⟩ (zzi ⟨33,[.bool false,aa.v]⟩ ty33 ?_));refine zzb (zzd (sq9 (zza 9 (.adr 4 1) (zzh 10 (.v (aa.v)) ty31 zzk (zza 11 (zI aa.n) (zza 12 (zB ((aa.n:Int)==0)) (zzb (zzt (b:=(aa.n:Int)==0) xj (fun ab=>?_) (fun ab=>?_)))))))))
 ·have ac:(aa.n:Int)=0:=by simpa using ab
  refine sq9 (zza 13 (.v (.agg #[.bool false,qyn])) (zxw 14 ⟨77,[.int .u32 1]⟩ 1 (fun ad u19 e20 ai=>?_)));refine zza 15 (.v (.agg #[.bool false,.slice (some ⟨ad,0,none⟩) 1 1])) (zzi ⟨33,[.bool false,qyn]⟩ ty33 ?_);refine zzi ⟨33,[.bool false,.slice (some ⟨ad,0,none⟩) 1 1]⟩ ty33 ?_;refine zzb (zzn (zzv (ret0 [.agg #[.bool false,qyn],.agg #[.bool false,.slice (some ⟨ad,0,none⟩) 1 1]] ⟨zzq ty33 zze,zzq ty33 zze,trivial⟩ fun u22 ak=>?_)));have hp:=ae.pos;have hD:D=0:=by simp at ab;omega
  exact⟨⟨false,⟨none,0,0⟩⟩,⟨false,(⟨some ⟨ad,0,none⟩,1,1⟩:Sl)⟩,0,1,rfl,(int_zero _ K).raw,nat_intN (((one_data ai).ext ak).more hK),by omega,by rw[hq,hD];simp,hK⟩
 have ac:¬((aa.n:Int)=0):=by simpa using ab
 refine zzr (zzo ?_);refine zzd (zzy [0,1,0,3,15] [(0,[]),(1,[]),(2,[]),(3,[4]),(4,[])] xj xj (zza 16 (.adr 1 0) (zzh 17 (.v (.agg #[.bool r.s,r.m.v])) ty33 zze (zzh 18 (.v (.agg #[.bool false,aa.v])) ty33 zze (zzi ⟨33,[.bool r.s,r.m.v]⟩ ty33 ?_)))));refine zzi ⟨33,[.bool false,aa.v]⟩ ty33 ?_;refine zzb (zzn (ret0 [.agg #[.bool r.s,r.m.v],.agg #[.bool false,aa.v]] ⟨zzq ty33 zze,zzq ty33 zze,trivial⟩ fun u24 ag=>?_));have hp:=ae.pos;exact⟨⟨r.s,r.m⟩,⟨false,aa⟩,z,D,rfl,(hi.ext xe),nat_intN (ae.ext ag),by simp at ab;omega,hq,hK⟩
theorem k_rqTrim{u w:World}{r1:RL}{x:Rat}{K:Nat}(d:Dat u w)(hr1:RatV u r1 x K)(hK:K≤100000000):qyc 84 #[r1.v] w (Post u w fun v u'=>∃r:RL,v=r.v∧RatN u' r x K):=by
 refine zzl Tryz.func84 rfl Tryz.ntmps84 Tryz.results84 d ?_;refine sq9 (zzj 1 ⟨35,r1.cs⟩ (zzj 2 ⟨35,zw3⟩ (zzb (sq9 (zzh 6 (.v (r1.v)) ty35 zze (zzg 7 41 _ fun _ _ ah an=>qym (k_parts an (hr1.ext ah) xq) ?_))))));rintro _ u13 g14 ⟨aa,ab,z12,D12,rfl,ae,af,al,ad,ai⟩;refine zza 5 (.v (.tuple #[aa.v,ab.v])) (zza 8 (.v (aa.v)) (zza 9 (.v (ab.v)) (zzj 3 ⟨33,[.bool false,qyn]⟩ (zzj 4 ⟨33,[.bool false,qyn]⟩ (zzi ⟨33,aa.cs⟩ ty33 ?_)))));refine zzi ⟨33,ab.cs⟩ ty33 ?_;refine zzb (sq9 (zzh 10 (.v (aa.v)) ty33 zze (zzh 11 (.v (ab.v)) ty33 zze (zzg 12 44 _ fun _ _ ag ak=>qym (k_reduce ak (ae.ext ag) (af.ext ag).raw xq xq) ?_))));rintro _ u19 g20 ⟨ac,rfl,am⟩;refine zzi ⟨35,ac.cs⟩ ty35 ?_;refine zzb (zzn (ret0 [ac.v] ⟨zzq ty35 zze,trivial⟩ fun u22 aj=>?_));refine⟨ac,rfl,RatN.fit (K:=(max K K+1)) ?_ (hr1.rs)⟩;rw[ad,←Nt.mk_div];exact(am.ext aj)
theorem k_rqOf{u w:World}{z:Int}(d:Dat u w)(h0:-9223372036854775808≤z)(h1:z≤9223372036854775807):qyc 14 #[.int .i64 z] w (Post u w fun v u'=>∃r:RL,v=r.v∧RatN u' r (z:Rat) 2):=by
 refine zzl Tryz.func14 rfl Tryz.ntmps14 Tryz.results14 d ?_;refine sq9 (zzj 2 ⟨35,zw3⟩ (zzb (sq9 (zza 3 (zI z) (zzg 4 45 _ fun _ _ _ ae=>qym (k_riOf ae (z:=z) xq xq) ?_)))));rintro _ u14 g15 ⟨aa,rfl,af⟩;refine zxw 5 ⟨77,[.int .u32 1]⟩ 1 (fun ab u18 ad ag=>?_);refine zza 6 (.v (.agg #[.bool aa.s,aa.m.v,.slice (some ⟨ab,0,none⟩) 1 1])) (zzi ⟨35,aa.cs++[.slice (some ⟨ab,0,none⟩) 1 1]⟩ ty35 ?_);refine zzb (zzn (ret0 [.agg #[.bool aa.s,aa.m.v,.slice (some ⟨ab,0,none⟩) 1 1]] ⟨zzq ty35 zze,trivial⟩ fun u21 ac=>?_));refine⟨(⟨aa.s,aa.m,(⟨some ⟨ab,0,none⟩,1,1⟩:Sl)⟩:RL),rfl,?_⟩;exact whole_rat (af.ext (ad.trans ac)) ((one_data ag).ext ac)
theorem k_rqFrac{u w:World}{a b:Int}(d:Dat u w)(ha0:-9223372036854775808≤a)(ha1:a≤9223372036854775807)(hb0:-9223372036854775808≤b)(hb1:b≤9223372036854775807):qyc 57 #[.int .i64 a,.int .i64 b] w (Post u w fun v u'=>∃r:RL,v=r.v∧RatN u' r ((a:Rat)/(b:Rat)) 3):=by
 refine zzl Tryz.func57 rfl Tryz.ntmps57 Tryz.results57 d ?_;refine sq9 (zzj 4 ⟨35,zw3⟩ (zzb (sq9 (zza 5 (zI a) (zzg 6 45 _ fun _ _ _ ak=>qym (k_riOf ak (z:=a) xq xq) ?_)))));rintro _ u14 g15 ⟨i12,rfl,ad⟩;refine zza 7 (zI b) (zzg 8 45 _ fun _ _ aj ag=>qym (k_riOf ag (z:=b) xq xq) ?_);rintro _ u20 ah ⟨i18,rfl,af⟩;refine zzg 9 44 _ fun _ _ ab ai=>qym (k_reduce ai (ad.ext xe).raw (af.ext ab).raw xq xq) ?_;rintro _ u26 g27 ⟨aa,rfl,ae⟩;refine zzi ⟨35,aa.cs⟩ ty35 ?_;refine zzb (zzn (ret0 [aa.v] ⟨zzq ty35 zze,trivial⟩ fun u29 ac=>?_));refine⟨aa,rfl,RatN.more (K:=(max 2 2+1)) ?_ xq⟩;exact(ae.ext ac)
theorem k_rqSign{u w:World}{r1:RL}{x:Rat}{K:Nat}(d:Dat u w)(hr1:RatV u r1 x K)(hK:K≤100000000):qyc 129 #[r1.v] w (Post u w fun v u'=>v=.int .i64 (sgQ x)):=by
 refine zzl Tryz.func129 rfl Tryz.ntmps129 Tryz.results129 d ?_;refine sq9 (zzj 1 ⟨35,r1.cs⟩ (zza 2 (zI 0) (zzb (sq9 (zzh 6 (.v (r1.v)) ty35 zze (zzg 7 41 _ fun _ _ ag al=>qym (k_parts al (hr1.ext ag) xq) ?_))))));rintro _ u13 g14 ⟨aa,ad,af,D12,rfl,ac,ak,ae,ab,ai⟩;refine zza 5 (.v (.tuple #[aa.v,ad.v])) (zza 8 (.v (aa.v)) (zza 9 (.v (ad.v)) (zzj 3 ⟨33,[.bool false,qyn]⟩ (zzj 4 ⟨33,[.bool false,qyn]⟩ (zzi ⟨33,aa.cs⟩ ty33 ?_)))));refine zzi ⟨33,ad.cs⟩ ty33 ?_;refine zzb (sq9 (zzh 10 (.v (aa.v)) ty33 zze (zzg 11 90 _ fun _ _ ah aj=>qym (k_riSign aj (ac.ext ah) xq) ?_)));rintro _ u17 g18 rfl;refine zza 2 (zI (cmpS af 0)) (zzb (zzn (ret0 [.int .i64 (cmpS af 0)] ⟨zzp,trivial⟩ fun u20 e21=>?_)));show _=_;rw[ab,←sg_mk ae]
 rfl
theorem k_rqCompare{u w:World}{r1:RL}{x:Rat}{K:Nat}{r2:RL}{y:Rat}{L:Nat}(d:Dat u w)(hr1:RatV u r1 x K)(hr2:RatV u r2 y L)(hK:K≤100000000)(hL:L≤100000000):qyc 12 #[r1.v,r2.v] w (Post u w fun v u'=>v=.int .i64 (cmpQ x y)):=by
 refine zzl Tryz.func12 rfl Tryz.ntmps12 Tryz.results12 d ?_;refine sq9 (zzj 2 ⟨35,r1.cs⟩ (zzj 3 ⟨35,r2.cs⟩ (zza 4 (zI 0) (zzb (sq9 (zzh 10 (.v (r1.v)) ty35 zze (zzg 11 41 _ fun _ _ ap aJ=>qym (k_parts aJ (hr1.ext ap) xq) ?_)))))));rintro _ u13 az ⟨ab,ae,ay,au,rfl,aj,am,an,ag,aD⟩;refine zza 9 (.v (.tuple #[ab.v,ae.v])) (zza 12 (.v (ab.v)) (zza 13 (.v (ae.v)) (zzj 5 ⟨33,[.bool false,qyn]⟩ (zzj 6 ⟨33,[.bool false,qyn]⟩ (zzi ⟨33,ab.cs⟩ ty33 ?_)))));refine zzi ⟨33,ae.cs⟩ ty33 ?_;refine zzb (sq9 (zzh 15 (.v (r2.v)) ty35 zze (zzg 16 41 _ fun _ _ ah aE=>qym (k_parts aE (hr2.ext xe) xq) ?_)));rintro _ u18 ar ⟨ad,ac,ax,av,rfl,ak,af,ai,al,aI⟩;refine zza 14 (.v (.tuple #[ad.v,ac.v])) (zza 17 (.v (ad.v)) (zza 18 (.v (ac.v)) (zzj 7 ⟨33,[.bool false,qyn]⟩ (zzj 8 ⟨33,[.bool false,qyn]⟩ (zzi ⟨33,ad.cs⟩ ty33 ?_)))));refine zzi ⟨33,ac.cs⟩ ty33 ?_;refine zzb (zzd (zzy [0,0,3,0,0,31,63,127] [(0,[]),(1,[]),(3,[]),(4,[]),(2,[]),(5,[]),(6,[]),(7,[])] xj xj (zzh 19 (.v (ab.v)) ty33 zze (zzh 20 (.v (ac.v)) ty33 zze (zzh 22 (.v (ad.v)) ty33 zze (zzh 23 (.v (ae.v)) ty33 zze (zzg 21 43 _ fun _ _ aa aB=>qym (k_riMul aB (aj.ext xe) (af.ext aa).raw xq xq) ?_)))))));rintro _ u24 aw ⟨i22,rfl,aA⟩;refine zzg 24 43 _ fun _ _ ao aG=>qym (k_riMul aG (ak.ext xe) (am.ext xe).raw xq xq) ?_;rintro _ u30 aF ⟨i28,rfl,aH⟩;refine zzg 25 42 _ fun _ _ aq aK=>qym (k_riCompare aK (aA.ext xe).raw (aH.ext aq).raw xq xq) ?_;rintro _ u34 g35 rfl;refine zza 4 (zI (cmpS (ay*(av:Int)) (ax*(au:Int)))) (zzb (zzn (ret0 [.int .i64 (cmpS (ay*(av:Int)) (ax*(au:Int)))] ⟨zzp,trivial⟩ fun u37 e38=>?_)));show _=_;rw[ag,al,←cmp_mk an ai]
 rfl
theorem k_rqLess{u w:World}{r1:RL}{x:Rat}{K:Nat}{r2:RL}{y:Rat}{L:Nat}(d:Dat u w)(hr1:RatV u r1 x K)(hr2:RatV u r2 y L)(hK:K≤100000000)(hL:L≤100000000):qyc 179 #[r1.v,r2.v] w (Post u w fun v u'=>v=.bool (decide (x<y))):=by
 refine zzl Tryz.func179 rfl Tryz.ntmps179 Tryz.results179 d ?_;refine sq9 (zzj 2 ⟨35,r1.cs⟩ (zzj 3 ⟨35,r2.cs⟩ (zza 4 (zB false) (zzb (sq9 (zzh 5 (.v (r1.v)) ty35 zze (zzh 6 (.v (r2.v)) ty35 zze (zzg 7 12 _ fun _ _ aa ab=>qym (k_rqCompare ab (hr1.ext aa) (hr2.ext aa) xq xq) ?_))))))));rintro _ u12 g13 rfl;refine zza 8 (zB (decide ((cmpQ x y)<0))) (zza 4 (zB (decide ((cmpQ x y)<0))) (zzb (zzn (ret0 [.bool (decide ((cmpQ x y)<0))] ⟨zzp,trivial⟩ fun u15 e16=>?_))));show _=_;rw[←cmpQ_lt]
 rfl
theorem k_rqNeg{u w:World}{r1:RL}{x:Rat}{K:Nat}(d:Dat u w)(hr1:RatV u r1 x K)(hK:K≤100000000):qyc 62 #[r1.v] w (Post u w fun v u'=>∃r:RL,v=r.v∧RatN u' r (-x) K):=by
 refine zzl Tryz.func62 rfl Tryz.ntmps62 Tryz.results62 d ?_;refine sq9 (zzj 1 ⟨35,r1.cs⟩ (zzj 2 ⟨35,zw3⟩ (zzb (sq9 (zzh 3 (.v (r1.v)) ty35 zze (zzg 4 84 _ fun _ _ ai aj=>qym (k_rqTrim aj (hr1.ext ai) xq) ?_))))));rintro _ u14 g15 ⟨ab,rfl,ad⟩;refine zzi ⟨35,ab.cs⟩ ty35 ?_;refine zzb (sq9 (zza 5 (.adr 1 0) (zzh 6 (.v (.agg #[.bool ab.s,ab.m.v])) ty33 zze (zzg 7 96 _ fun _ _ ac ag=>qym (k_riNeg ag ((RatN.num ad).ext ac).raw xq) ?_))));rintro _ u20 ah ⟨aa,rfl,af⟩;refine zza 8 (.adr 1 0) (zzi ⟨35,aa.cs++[ab.d.v]⟩ ty33 ?_);refine zzb (sq9 (zzh 9 (.v (.agg #[.bool aa.s,aa.m.v,ab.d.v])) ty35 zze (zzi ⟨35,aa.cs++[ab.d.v]⟩ ty35 ?_)));refine zzb (zzn (ret0 [.agg #[.bool aa.s,aa.m.v,ab.d.v]] ⟨zzq ty35 zze,trivial⟩ fun u23 ae=>?_));exact⟨(⟨aa.s,aa.m,ab.d⟩:RL),rfl,neg_rat (ad.ext xe) (af.ext ae)⟩
theorem k_rqAbs{u w:World}{r1:RL}{x:Rat}{K:Nat}(d:Dat u w)(hr1:RatV u r1 x K)(hK:K≤100000000):qyc 38 #[r1.v] w (Post u w fun v u'=>∃r:RL,v=r.v∧RatN u' r (absQ x) K):=by
 refine zzl Tryz.func38 rfl Tryz.ntmps38 Tryz.results38 d ?_;refine sq9 (zzj 1 ⟨35,r1.cs⟩ (zzj 2 ⟨35,zw3⟩ (zzb (sq9 (zzh 3 (.v (r1.v)) ty35 zze (zzg 4 84 _ fun _ _ ai aj=>qym (k_rqTrim aj (hr1.ext ai) xq) ?_))))));rintro _ u14 g15 ⟨ab,rfl,ad⟩;refine zzi ⟨35,ab.cs⟩ ty35 ?_;refine zzb (sq9 (zza 5 (.adr 1 0) (zzh 6 (.v (.agg #[.bool ab.s,ab.m.v])) ty33 zze (zzg 7 85 _ fun _ _ ac ag=>qym (k_riAbs ag ((RatN.num ad).ext ac).raw xq) ?_))));rintro _ u20 ah ⟨aa,rfl,af⟩;refine zza 8 (.adr 1 0) (zzi ⟨35,aa.cs++[ab.d.v]⟩ ty33 ?_);refine zzb (sq9 (zzh 9 (.v (.agg #[.bool aa.s,aa.m.v,ab.d.v])) ty35 zze (zzi ⟨35,aa.cs++[ab.d.v]⟩ ty35 ?_)));refine zzb (zzn (ret0 [.agg #[.bool aa.s,aa.m.v,ab.d.v]] ⟨zzq ty35 zze,trivial⟩ fun u23 ae=>?_));exact⟨(⟨aa.s,aa.m,ab.d⟩:RL),rfl,abs_rat3 (ad.ext xe) (af.ext ae)⟩
theorem k_rqAdd{u w:World}{r1:RL}{x:Rat}{K:Nat}{r2:RL}{y:Rat}{L:Nat}(d:Dat u w)(hr1:RatV u r1 x K)(hr2:RatV u r2 y L)(hK:K≤100000000)(hL:L≤100000000):qyc 67 #[r1.v,r2.v] w (Post u w fun v u'=>∃r:RL,v=r.v∧RatN u' r (x+y) (K+L+2)):=by
 refine zzl Tryz.func67 rfl Tryz.ntmps67 Tryz.results67 d ?_;refine sq9 (zzj 2 ⟨35,r1.cs⟩ (zzj 3 ⟨35,r2.cs⟩ (zzj 4 ⟨35,zw3⟩ (zzb (sq9 (zzh 10 (.v (r1.v)) ty35 zze (zzg 11 41 _ fun _ _ ax aQ=>qym (k_parts aQ (hr1.ext ax) xq) ?_)))))));rintro _ u13 aA ⟨ai,ae,z12,D12,rfl,ap,ad,av,am,aE⟩;refine zza 9 (.v (.tuple #[ai.v,ae.v])) (zza 12 (.v (ai.v)) (zza 13 (.v (ae.v)) (zzj 5 ⟨33,[.bool false,qyn]⟩ (zzj 6 ⟨33,[.bool false,qyn]⟩ (zzi ⟨33,ai.cs⟩ ty33 ?_)))));refine zzi ⟨33,ae.cs⟩ ty33 ?_;refine zzb (sq9 (zzh 15 (.v (r2.v)) ty35 zze (zzg 16 41 _ fun _ _ ag aI=>qym (k_parts aI (hr2.ext xe) xq) ?_)));rintro _ u18 an ⟨aj,ac,z17,D17,rfl,aq,ab,ao,ar,aO⟩;refine zza 14 (.v (.tuple #[aj.v,ac.v])) (zza 17 (.v (aj.v)) (zza 18 (.v (ac.v)) (zzj 7 ⟨33,[.bool false,qyn]⟩ (zzj 8 ⟨33,[.bool false,qyn]⟩ (zzi ⟨33,aj.cs⟩ ty33 ?_)))));refine zzi ⟨33,ac.cs⟩ ty33 ?_;refine zzb (zzd (zzy [0,0,3,0,0,31,63,0,0,511,1023,2047] [(0,[]),(1,[]),(3,[]),(4,[]),(7,[]),(8,[]),(2,[]),(5,[]),(6,[]),(9,[]),(10,[]),(11,[])] xj xj (zzh 19 (.v (ai.v)) ty33 zze (zzh 20 (.v (ac.v)) ty33 zze (zzh 22 (.v (aj.v)) ty33 zze (zzh 23 (.v (ae.v)) ty33 zze (zzh 26 (.v (ae.v)) ty33 zze (zzh 27 (.v (ac.v)) ty33 zze (zzg 21 43 _ fun _ _ aa aD=>qym (k_riMul aD (ap.ext xe) (ab.ext aa).raw xq xq) ?_)))))))));rintro _ u24 al ⟨i22,rfl,aB⟩;refine zzg 24 43 _ fun _ _ af aK=>qym (k_riMul aK (aq.ext xe) (ad.ext xe).raw xq xq) ?_;rintro _ u30 au ⟨i28,rfl,aM⟩;refine zzg 25 133 _ fun _ _ ah aR=>qym (k_riAdd aR (aB.ext xe).raw (aM.ext ah).raw xq xq) ?_;rintro _ u36 ay ⟨i34,rfl,aJ⟩;refine zzg 28 43 _ fun _ _ aw aP=>qym (k_riMul aP (ad.ext xe).raw (ab.ext xe).raw xq xq) ?_;rintro _ u42 aG ⟨i40,rfl,aN⟩;refine zzg 29 44 _ fun _ _ az aH=>qym (k_reduce aH (aJ.ext xe).raw (aN.ext az).raw xq xq) ?_;rintro _ u48 g49 ⟨ak,rfl,aL⟩;refine zzi ⟨35,ak.cs⟩ ty35 ?_;refine zzc 30 [(4,.adr 4 0)] [(4,⟨35,ak.cs⟩)] (zzn (ret0 [ak.v] ⟨zzq ty35 zze,trivial⟩ fun u51 aF=>?_));refine⟨ak,rfl,RatN.more (K:=(max (max (K+L) (L+K)+1) (K+L)+1)) ?_ xq⟩;rw[am,ar,←add_div2 av ao];exact(aL.ext aF)
theorem k_rqMul{u w:World}{r1:RL}{x:Rat}{K:Nat}{r2:RL}{y:Rat}{L:Nat}(d:Dat u w)(hr1:RatV u r1 x K)(hr2:RatV u r2 y L)(hK:K≤100000000)(hL:L≤100000000):qyc 13 #[r1.v,r2.v] w (Post u w fun v u'=>∃r:RL,v=r.v∧RatN u' r (x*y) (K+L+1)):=by
 refine zzl Tryz.func13 rfl Tryz.ntmps13 Tryz.results13 d ?_;refine sq9 (zzj 2 ⟨35,r1.cs⟩ (zzj 3 ⟨35,r2.cs⟩ (zzj 4 ⟨35,zw3⟩ (zzb (sq9 (zzh 10 (.v (r1.v)) ty35 zze (zzg 11 41 _ fun _ _ ao aH=>qym (k_parts aH (hr1.ext ao) xq) ?_)))))));rintro _ u13 au ⟨ab,ae,z12,D12,rfl,aj,am,aE,ag,ax⟩;refine zza 9 (.v (.tuple #[ab.v,ae.v])) (zza 12 (.v (ab.v)) (zza 13 (.v (ae.v)) (zzj 5 ⟨33,[.bool false,qyn]⟩ (zzj 6 ⟨33,[.bool false,qyn]⟩ (zzi ⟨33,ab.cs⟩ ty33 ?_)))));refine zzi ⟨33,ae.cs⟩ ty33 ?_;refine zzb (sq9 (zzh 15 (.v (r2.v)) ty35 zze (zzg 16 41 _ fun _ _ ah az=>qym (k_parts az (hr2.ext xe) xq) ?_)));rintro _ u18 aq ⟨ad,ac,z17,D17,rfl,ak,af,ay,al,aG⟩;refine zza 14 (.v (.tuple #[ad.v,ac.v])) (zza 17 (.v (ad.v)) (zza 18 (.v (ac.v)) (zzj 7 ⟨33,[.bool false,qyn]⟩ (zzj 8 ⟨33,[.bool false,qyn]⟩ (zzi ⟨33,ad.cs⟩ ty33 ?_)))));refine zzi ⟨33,ac.cs⟩ ty33 ?_;refine zzb (zzd (zzy [0,0,3,0,0,31,63,127] [(0,[]),(1,[]),(3,[]),(4,[]),(2,[]),(5,[]),(6,[]),(7,[])] xj xj (zzh 19 (.v (ab.v)) ty33 zze (zzh 20 (.v (ad.v)) ty33 zze (zzh 22 (.v (ae.v)) ty33 zze (zzh 23 (.v (ac.v)) ty33 zze (zzg 21 43 _ fun _ _ aa aw=>qym (k_riMul aw (aj.ext xe) (ak.ext aa) xq xq) ?_)))))));rintro _ u24 ar ⟨i22,rfl,av⟩;refine zzg 24 43 _ fun _ _ an aD=>qym (k_riMul aD (am.ext xe).raw (af.ext xe).raw xq xq) ?_;rintro _ u30 aB ⟨i28,rfl,aF⟩;refine zzg 25 44 _ fun _ _ ap aI=>qym (k_reduce aI (av.ext xe).raw (aF.ext ap).raw xq xq) ?_;rintro _ u36 g37 ⟨ai,rfl,aA⟩;refine zzi ⟨35,ai.cs⟩ ty35 ?_;refine zzb (zzn (ret0 [ai.v] ⟨zzq ty35 zze,trivial⟩ fun u39 aJ=>?_));refine⟨ai,rfl,RatN.more (K:=(max (K+L) (K+L)+1)) ?_ xq⟩;rw[ag,al,←mul_div2];exact(aA.ext aJ)
theorem k_rqMin{u w:World}{r1:RL}{x:Rat}{K:Nat}{r2:RL}{y:Rat}{L:Nat}(d:Dat u w)(hr1:RatV u r1 x K)(hr2:RatV u r2 y L)(hK:K≤100000000)(hL:L≤100000000):qyc 126 #[r1.v,r2.v] w (Post u w fun v u'=>∃r:RL,v=r.v∧RatN u' r (Nt.lo x y) (max K L)):=by
 refine zzl Tryz.func126 rfl Tryz.ntmps126 Tryz.results126 d ?_;refine sq9 (zzj 2 ⟨35,r1.cs⟩ (zzj 3 ⟨35,r2.cs⟩ (zzj 4 ⟨35,zw3⟩ (zzb (zzd (sq9 (zzh 5 (.v (r2.v)) ty35 zze (zzh 6 (.v (r1.v)) ty35 zze (zzg 7 179 _ fun _ _ ab an=>qym (k_rqLess an (hr2.ext ab) (hr1.ext ab) xq xq) ?_)))))))));rintro _ u12 ae rfl;refine zzb (zzt (b:=decide (y<x)) xj (fun aa=>?_) (fun aa=>?_))
 ·have qhb15:=qyt aa;refine sq9 (zzh 8 (.v (r2.v)) ty35 zze (zzg 9 84 _ fun _ _ ag ak=>qym (k_rqTrim ak (hr2.ext xe) xq) ?_));rintro _ u19 g20 ⟨ac,rfl,am⟩;refine zzi ⟨35,ac.cs⟩ ty35 ?_;refine zzb (zzn (zzv (ret0 [ac.v] ⟨zzq ty35 zze,trivial⟩ fun u22 ah=>?_)));refine⟨ac,rfl,RatN.more (K:=L) ?_ xq⟩
  unfold Nt.lo
  rw[if_pos (qyt aa)];exact(am.ext ah)
 have qhb15:=qyf aa;refine zzr (zzo ?_);refine sq9 (zzh 10 (.v (r1.v)) ty35 zze (zzg 11 84 _ fun _ _ aj af=>qym (k_rqTrim af (hr1.ext xe) xq) ?_));rintro _ u27 g28 ⟨ad,rfl,al⟩;refine zzi ⟨35,ad.cs⟩ ty35 ?_;refine zzb (zzn (ret0 [ad.v] ⟨zzq ty35 zze,trivial⟩ fun u30 ai=>?_));refine⟨ad,rfl,RatN.more (K:=K) ?_ xq⟩
 unfold Nt.lo
 rw[if_neg (qyf aa)];exact(al.ext ai)
theorem k_rqMax{u w:World}{r1:RL}{x:Rat}{K:Nat}{r2:RL}{y:Rat}{L:Nat}(d:Dat u w)(hr1:RatV u r1 x K)(hr2:RatV u r2 y L)(hK:K≤100000000)(hL:L≤100000000):qyc 127 #[r1.v,r2.v] w (Post u w fun v u'=>∃r:RL,v=r.v∧RatN u' r (Nt.hi x y) (max K L)):=by
 refine zzl Tryz.func127 rfl Tryz.ntmps127 Tryz.results127 d ?_;refine sq9 (zzj 2 ⟨35,r1.cs⟩ (zzj 3 ⟨35,r2.cs⟩ (zzj 4 ⟨35,zw3⟩ (zzb (zzd (sq9 (zzh 5 (.v (r1.v)) ty35 zze (zzh 6 (.v (r2.v)) ty35 zze (zzg 7 179 _ fun _ _ ab an=>qym (k_rqLess an (hr1.ext ab) (hr2.ext ab) xq xq) ?_)))))))));rintro _ u12 ae rfl;refine zzb (zzt (b:=decide (x<y)) xj (fun aa=>?_) (fun aa=>?_))
 ·have qhb15:=qyt aa;refine sq9 (zzh 8 (.v (r2.v)) ty35 zze (zzg 9 84 _ fun _ _ ag ak=>qym (k_rqTrim ak (hr2.ext xe) xq) ?_));rintro _ u19 g20 ⟨ac,rfl,am⟩;refine zzi ⟨35,ac.cs⟩ ty35 ?_;refine zzb (zzn (zzv (ret0 [ac.v] ⟨zzq ty35 zze,trivial⟩ fun u22 ah=>?_)));refine⟨ac,rfl,RatN.more (K:=L) ?_ xq⟩
  unfold Nt.hi
  rw[if_pos (qyt aa)];exact(am.ext ah)
 have qhb15:=qyf aa;refine zzr (zzo ?_);refine sq9 (zzh 10 (.v (r1.v)) ty35 zze (zzg 11 84 _ fun _ _ aj af=>qym (k_rqTrim af (hr1.ext xe) xq) ?_));rintro _ u27 g28 ⟨ad,rfl,al⟩;refine zzi ⟨35,ad.cs⟩ ty35 ?_;refine zzb (zzn (ret0 [ad.v] ⟨zzq ty35 zze,trivial⟩ fun u30 ai=>?_));refine⟨ad,rfl,RatN.more (K:=K) ?_ xq⟩
 unfold Nt.hi
 rw[if_neg (qyf aa)];exact(al.ext ai)
def DivQ(x y:Rat)(K:Nat)(v:Value)(u:World):Prop:=(v=.tuple #[.agg #[.bool false,qyn,qyn],.int .i64 3]∧y=0)∨(y≠0∧∃r:RL,v=.tuple #[r.v,.int .i64 0]∧RatN u r (x/y) K)
theorem k_rqDiv{u w:World}{r1:RL}{x:Rat}{K:Nat}{r2:RL}{y:Rat}{L:Nat}(d:Dat u w)(hr1:RatV u r1 x K)(hr2:RatV u r2 y L)(hK:K≤100000000)(hL:L≤100000000):qyc 130 #[r1.v,r2.v] w (Post u w fun v u'=>DivQ x y (K+L+1) v u'):=by
 refine zzl Tryz.func130 rfl Tryz.ntmps130 Tryz.results130 d ?_;refine sq9 (zzj 2 ⟨35,r1.cs⟩ (zzj 3 ⟨35,r2.cs⟩ (zzj 4 ⟨35,zw3⟩ (zza 5 (zI 0) (zzb (sq9 (zzh 11 (.v (r1.v)) ty35 zze (zzg 12 41 _ fun _ _ aw aP=>qym (k_parts aP (hr1.ext aw) xq) ?_))))))));rintro _ u13 aD ⟨ag,aj,z12,D12,rfl,aq,ar,au,am,aG⟩;refine zza 10 (.v (.tuple #[ag.v,aj.v])) (zza 13 (.v (ag.v)) (zza 14 (.v (aj.v)) (zzj 6 ⟨33,[.bool false,qyn]⟩ (zzj 7 ⟨33,[.bool false,qyn]⟩ (zzi ⟨33,ag.cs⟩ ty33 ?_)))));refine zzi ⟨33,aj.cs⟩ ty33 ?_;refine zzb (sq9 (zzh 16 (.v (r2.v)) ty35 zze (zzg 17 41 _ fun _ _ an aK=>qym (k_parts aK (hr2.ext xe) xq) ?_)));rintro _ u18 ax ⟨ae,ah,av,D17,rfl,ad,al,ap,ab,aO⟩;refine zza 15 (.v (.tuple #[ae.v,ah.v])) (zza 18 (.v (ae.v)) (zza 19 (.v (ah.v)) (zzj 8 ⟨33,[.bool false,qyn]⟩ (zzj 9 ⟨33,[.bool false,qyn]⟩ (zzi ⟨33,ae.cs⟩ ty33 ?_)))));refine zzi ⟨33,ah.cs⟩ ty33 ?_;refine zzb (zzd (sq9 (zzh 20 (.v (ae.v)) ty33 zze (zzg 21 90 _ fun _ _ ac aE=>qym (k_riSign aE (ad.ext ac) xq) ?_))));rintro _ u22 ai rfl;refine zza 22 (zB ((cmpS av 0)==0)) (zzb (zzt (b:=(cmpS av 0)==0) xj (fun aa=>?_) (fun aa=>?_)))
 ·refine sq9 (zza 23 (.v (.agg #[.bool false,qyn,qyn])) (zzi ⟨35,zw3⟩ ty35 ?_));refine zza 5 (zI 3) (zzb (zzn (zzv (ret0 [.agg #[.bool false,qyn,qyn],.int .i64 3] ⟨zzq ty35 zze,zzp,trivial⟩ fun u26 e27=>?_))))
  left
  exact⟨rfl,by rw[ab,cmp_eq0 aa,Rat.zero_mkRat]⟩
 have az:av≠0:=cmp_ne0 aa;refine zzr (zzo ?_);refine zzd (zzy [0,0,3,0,0,31,63,127,255] [(0,[]),(1,[]),(3,[]),(4,[]),(2,[]),(5,[]),(6,[]),(7,[]),(8,[])] xj xj (zzh 24 (.v (ag.v)) ty33 zze (zzh 25 (.v (ah.v)) ty33 zze (zzh 27 (.v (aj.v)) ty33 zze (zzh 28 (.v (ae.v)) ty33 zze (zzg 26 43 _ fun _ _ af aL=>qym (k_riMul aL (aq.ext xe) (al.ext xe).raw xq xq) ?_))))));rintro _ u31 ay ⟨i29,rfl,aM⟩;refine zzg 29 43 _ fun _ _ ao aI=>qym (k_riMul aI (ar.ext xe).raw (ad.ext xe) xq xq) ?_;rintro _ u37 aH ⟨i35,rfl,aJ⟩;refine zzg 30 44 _ fun _ _ aA aB=>qym (k_reduce aB (aM.ext xe).raw (aJ.ext aA).raw xq xq) ?_;rintro _ u43 g44 ⟨ak,rfl,aF⟩;refine zzi ⟨35,ak.cs⟩ ty35 ?_;refine zza 5 (zI 0) (zzc 31 [(4,.adr 4 0),(5,zI 0)] [(4,⟨35,ak.cs⟩)] (zzn (ret0 [ak.v,.int .i64 0] ⟨zzq ty35 zze,zzp,trivial⟩ fun u46 aN=>?_)))
 right
 refine⟨?_,ak,rfl,RatN.more (K:=(max (K+L) (K+L)+1)) ?_ xq⟩
 ·rw[ab];exact(Rat.mkRat_ne_zero xq).2 az
 rw[am,ab,←quo_mk au ap az];exact(aF.ext aN)
theorem k_rqOver{u w:World}{r1:RL}{x:Rat}{K:Nat}{r2:RL}{y:Rat}{L:Nat}(d:Dat u w)(hr1:RatV u r1 x K)(hr2:RatV u r2 y L)(hK:K≤100000000)(hL:L≤100000000):qyc 64 #[r1.v,r2.v] w (Post u w fun v u'=>∃r:RL,v=r.v∧RatN u' r (x/y) (K+L+2)):=by
 refine zzl Tryz.func64 rfl Tryz.ntmps64 Tryz.results64 d ?_;refine sq9 (zzj 2 ⟨35,r1.cs⟩ (zzj 3 ⟨35,r2.cs⟩ (zzj 4 ⟨35,zw3⟩ (zzb (sq9 (zzh 8 (.v (r1.v)) ty35 zze (zzh 9 (.v (r2.v)) ty35 zze (zzg 10 130 _ fun _ _ ad ag=>qym (k_rqDiv ag (hr1.ext ad) (hr2.ext ad) xq xq) ?_))))))));rintro _ u15 g16 (⟨rfl,ab⟩|⟨ab,aa,rfl,ae⟩)
 ·skip
  refine zza 7 (.v (.tuple #[.agg #[.bool false,qyn,qyn],.int .i64 3])) (zza 11 (.v (.agg #[.bool false,qyn,qyn])) (zza 12 (zI 3) (zzj 5 ⟨35,zw3⟩ (zzi ⟨35,zw3⟩ ty35 ?_))));refine zza 6 (zI 3) (zzb (zzd (sq9 (zza 13 (zI 3) (zza 14 (zB true) (zzb (zyq xj (sq9 (zzg 15 14 _ fun _ _ _ af=>qym (k_rqOf af (z:=0) xq xq) ?_)))))))));rintro _ u21 g22 ⟨ac,rfl,ai⟩;refine zzi ⟨35,ac.cs⟩ ty35 ?_;refine zzb (zzn (zzv (ret0 [ac.v] ⟨zzq ty35 zze,trivial⟩ fun u24 aj=>?_)));refine⟨ac,rfl,RatN.more (K:=2) ?_ xq⟩;rw[ab,Rat.div_def,Rat.inv_zero,Rat.mul_zero];exact(ai.ext aj)
 refine zza 7 (.v (.tuple #[aa.v,.int .i64 0])) (zza 11 (.v (aa.v)) (zza 12 (zI 0) (zzj 5 ⟨35,zw3⟩ (zzi ⟨35,aa.cs⟩ ty35 ?_))));refine zza 6 (zI 0) (zzb (zzd (sq9 (zza 13 (zI 0) (zza 14 (zB false) (zzb (zyr xj (zzr (zzo ?_)))))))));refine sq9 (zzh 16 (.v (aa.v)) ty35 zze (zzi ⟨35,aa.cs⟩ ty35 ?_));refine zzb (zzn (ret0 [aa.v] ⟨zzq ty35 zze,trivial⟩ fun u26 ah=>?_));refine⟨aa,rfl,RatN.more (K:=(K+L+1)) ?_ xq⟩;exact(ae.ext ah)
end Go.Proofs.YtcpnfblekhgmgaaGreat

/- Parts of the proof: contracts of functions, each walked once, and plain laws. -/
import Derived.WalkKit
import Derived.Lib.Hide
import Derived.Deep.Draws
import Derived.Deep.AppendLies
import Derived.Maps.AppendAt
import Derived.Orders
import Derived.KernelRfl
import Derived.LoopN
import Derived.Test.YtcpnfblekhgmgaaGreatProg
import Derived.LoopTactic
import Derived.Outline
import Derived.Deep.QuietTactic
import Derived.BigQuiet
import Derived.BigRegion
set_option linter.unusedVariables false
set_option maxHeartbeats 8000000
namespace Go.Proofs.YtcpnfblekhgmgaaGreat
abbrev qyn:Value:=.slice none 0 0
abbrev qyc:=Calls Tryz.prog
theorem qyl{n:Nat}:n≤n:=Nat.le_refl n
theorem qyt{p:Prop}[Decidable p](h:decide p=true):p:=of_decide_eq_true h
theorem qyf{p:Prop}[Decidable p](h:decide p=false):¬p:=of_decide_eq_false h
theorem qyg{α:Type}{l:List α}{i:Nat}{a:α}:l.getD i a=l[i]?.getD a:=List.getD_eq_getElem?_getD
theorem xq{p:Prop}(h:p:=by omega):p:=h
theorem xj{p:Prop}(h:p:=by kernel_rfl):p:=h
theorem xk{p:Prop}(h:p:=by rw[IntWalk.i64_in _ (by omega)];omega):p:=h
theorem xz{p:Prop}(h:p:=by repeat first|exact noAt_of|exact zwl|refine zyc ?_|refine zye ?_|refine zyd ?_|refine zzx ?_|refine zya ?_):p:=h
theorem xw{p:Prop}(h:p:=by decide):p:=h
theorem yq{p:Prop}(h:p:=by exact zzu _ _ _):p:=h
theorem yv{p:Prop}(h:p:=by unfold maxLen;omega):p:=h
theorem yz{p:Prop}(h:p:=by rw[IntWalk.i64_in _ (by omega)]):p:=h
theorem yw{p:Prop}(h:p:=by simp;omega):p:=h
theorem yy{p:Prop}(h:p:=by show _≤(64:Int);omega):p:=h
open Go.RowKit
abbrev zw3:List Value:=[.bool false,qyn,qyn]
abbrev zw6:List Value:=[.bool false,qyn,qyn,.bool false,qyn,qyn]
def SlR(k:IntKind)(w:World)(A:Option Addr)(n c:Nat)(l:List Int):Prop:=
 l.length=n∧n≤c∧c≤maxLen∧(0<n→∃b o,A=some ⟨b,o,none⟩∧b<w.heap.size∧∀i,i<n→w.cell? ⟨b,o+i,none⟩=some (.int k (l[i]?.getD 0)))
def KBlk(k:IntKind)(w:World)(g:Nat)(t:TypeId)(l:List Int):Prop:=w.heap[g]? = some (.cells (l.map (Value.int k)).toArray t (0,0))
section
variable {k:IntKind} {w w':World} {g b o n c B:Nat} {t:TypeId} {l:List Int} {A:Option Addr}
theorem KBlk.lt(h:KBlk k w g t l):g<w.heap.size:=by
 rcases Nat.lt_or_ge g w.heap.size with hlt|hge
 ·exact hlt
 unfold KBlk at h;rw[Array.getElem?_eq_none hge] at h;cases h
theorem KBlk.cell(h:KBlk k w g t l){i:Nat}(hi:i<l.length):w.cell? ⟨g,i,none⟩=some (.int k (l[i]?.getD 0)):=by
 rw[cell_of_row w g i _ t (0,0) h]
 simp[hi]
theorem KBlk.frozen(h:KBlk k w g t l)(i:Nat):w.frozen? ⟨g,i,none⟩=false:=by
 unfold KBlk at h
 simp[World.frozen?,h]
theorem KBlk.set(h:KBlk k w g t l)(i:Nat)(x:Int):KBlk k (w.setCell ⟨g,i,none⟩ (.int k x)) g t (l.set i x):=by
 unfold KBlk at h ⊢
 simp[World.setCell,Array.getElem?_modify,h,List.map_set]
theorem KBlk.far(h:KBlk k w g t l){p:Addr}(hp:g≠p.block)(u:Value):KBlk k (w.setCell p u) g t l:=(Below.heap_setCell w p u g hp).trans h
theorem KBlk.below(h:KBlk k w g t l)(hb:Below B w w')(hg:g<B):KBlk k w' g t l:=(hb.block g hg).trans h
theorem KBlk.new(w:World)(t:TypeId)(l:List Int):KBlk k (w.alloc (.cells (l.map (Value.int k)).toArray t)) w.heap.size t l:=heap_alloc_new w _
theorem KBlk.slr(h:KBlk k w g t l){n c:Nat}(hn:n≤l.length)(hc:n≤c)(hm:c≤maxLen):SlR k w (some ⟨g,0,none⟩) n c (l.take n):=by
 refine⟨by simp;omega,hc,hm,fun _=>⟨g,0,rfl,h.lt,fun i hi=>?_⟩⟩;rw[Nat.zero_add,h.cell xq,List.getElem?_take_of_lt hi]
theorem KBlk.slr_all(h:KBlk k w g t l){n c:Nat}(hn:l.length=n)(hc:n≤c)(hm:c≤maxLen):SlR k w (some ⟨g,0,none⟩) n c l:=by
 have:=h.slr (n:=n) xq hc hm
 rwa [List.take_of_length_le xq] at this
theorem SlR.below(h:SlR k w A n c l)(hb:Below w.heap.size w w'):SlR k w' A n c l:=by
 obtain⟨h1,h2,h3,h4⟩:=h;refine⟨h1,h2,h3,fun hp=>?_⟩;obtain⟨b,o,rfl,hlt,hc⟩:=h4 hp;exact⟨b,o,rfl,by have:=hb.size;omega,fun i hi=>(hb.cell (p:=⟨b,o+i,none⟩) hlt).trans (hc i hi)⟩
theorem SlR.pos(h:SlR k w A n c l){i:Nat}(hi:i<n):∃b o,A=some ⟨b,o,none⟩∧b<w.heap.size∧w.cell? ⟨b,o+i,none⟩=some (.int k (l[i]?.getD 0)):=by
 obtain⟨_,_,_,h4⟩:=h;obtain⟨b,o,rfl,hlt,hc⟩:=h4 xq;exact⟨b,o,rfl,hlt,hc i hi⟩
theorem SlR.drewN(h:SlR k w A n c l)(m:Nat):SlR k (w.drewN m) A n c l:=h
theorem SlR.alloc(h:SlR k w A n c l)(ob:Obj):SlR k (w.alloc ob) A n c l:=h.below ((Below.refl _ _).alloc qyl ob)
theorem SlR.setCell(h:SlR k w A n c l){p:Addr}(u:Value)(hp:∀a,A=some a→a.block≠p.block):SlR k (w.setCell p u) A n c l:=by
 obtain⟨h1,h2,h3,h4⟩:=h;refine⟨h1,h2,h3,fun hq=>?_⟩;obtain⟨b,o,rfl,hlt,hc⟩:=h4 hq;refine⟨b,o,rfl,by simpa[World.setCell] using hlt,fun i hi=>?_⟩;rw[World.cell?_setCell_other _ _ _ _ (fun e=>hp _ rfl (by rw[e]))];exact hc i hi
theorem SlR.nil(w:World)(A:Option Addr)(c:Nat)(hc:c≤maxLen):SlR k w A 0 c []:=⟨rfl,Nat.zero_le _,hc,fun h=>absurd h xq⟩
end
def OwnK(k:IntKind)(w:World)(B:Nat)(t:TypeId)(A:Option Addr)(n c:Nat)(l:List Int):Prop:=
 l.length=n∧w.ownsRow B t 1 (.slice A n c) n (l.map (Value.int k))
section
variable {k:IntKind} {w w':World} {g b o n c B B':Nat} {t:TypeId} {l:List Int} {A:Option Addr}
theorem OwnK.slr(h:OwnK k w B t A n c l):SlR k w A n c l:=by
 obtain⟨h1,h2,h3⟩:=h
 rcases h3 with ⟨he,hn⟩|⟨g,cap,cur,he,hg,hh,hc,hm,hs,ht⟩
 ·injection he with e1 e2 e3
  subst e1 e2 e3;exact⟨h1,Nat.le_refl _,Nat.zero_le _,fun h=>absurd h xq⟩
 injection he with e1 e2 e3
 subst e1 e3;refine⟨h1,hc,hm,fun hp=>⟨g,0,rfl,?_,fun i hi=>?_⟩⟩
 ·rcases Nat.lt_or_ge g w.heap.size with hlt|hge
  ·exact hlt
  rw[Array.getElem?_eq_none hge] at hh;cases hh
 rw[Nat.zero_add,cell_of_row w g i cur t (0,0) hh];have:(cur.toList.take (n*1))[i]? = some (.int k (l[i]?.getD 0)):=by rw[ht];simp[show i<l.length by omega]
 rw[List.getElem?_take_of_lt xq] at this
 simpa using this
theorem OwnK.below(h:OwnK k w B t A n c l)(hb:Below w.heap.size w w'):OwnK k w' B t A n c l:=by
 obtain⟨h1,h2,h3⟩:=h;refine⟨h1,h2,?_⟩
 rcases h3 with h3|⟨g,cap,cur,he,hg,hh,hr⟩
 ·exact .inl h3
 refine .inr ⟨g,cap,cur,he,hg,?_,hr⟩;rw[hb.block g ?_];exact hh
 rcases Nat.lt_or_ge g w.heap.size with hlt|hge
 ·exact hlt
 rw[Array.getElem?_eq_none hge] at hh;cases hh
theorem OwnK.mono(h:OwnK k w B t A n c l)(hB:B'≤B):OwnK k w B' t A n c l:=by
 obtain⟨h1,h2,h3⟩:=h;refine⟨h1,h2,?_⟩
 rcases h3 with h3|⟨g,cap,cur,he,hg,hr⟩
 ·exact .inl h3
 exact .inr ⟨g,cap,cur,he,by omega,hr⟩
theorem OwnK.pos(h:OwnK k w B t A n c l)(hn:0<n):∃g,A=some ⟨g,0,none⟩∧B≤g∧g<w.heap.size:=by
 obtain⟨g,o,rfl,hlt,_⟩:=h.slr.pos (i:=0) hn
 rcases h.2.2 with ⟨he,_⟩|⟨g',cap,cur,he,hg,_⟩
 ·injection he with e1;cases e1
 injection he with e1
 injection e1 with e1
 injection e1 with e1 e2
 subst e1 e2;exact⟨g,rfl,hg,hlt⟩
theorem OwnK.cell(h:OwnK k w B t (some ⟨g,0,none⟩) n c l){i:Nat}(hi:i<n):w.cell? ⟨g,i,none⟩=some (.int k (l[i]?.getD 0)):=by
 rw[h.2.cellAt i xq]
 simp[show i<l.length by have:=h.1;omega]
theorem OwnK.frozen(h:OwnK k w B t (some ⟨g,0,none⟩) n c l)(i:Nat):w.frozen? ⟨g,i,none⟩=false:=h.2.frozenAt i
theorem OwnK.set(h:OwnK k w B t (some ⟨g,0,none⟩) n c l)(i:Nat)(x:Int):OwnK k (w.setCell ⟨g,i,none⟩ (.int k x)) B t (some ⟨g,0,none⟩) n c (l.set i x):=by
 refine⟨by simpa using h.1,?_⟩;have:=(h.2.stored i (.int k x)).1
 rwa [←List.map_set] at this
theorem KBlk.own(h:KBlk k w g t l)(hB:B≤g)(hn:l.length=n)(hm:n≤maxLen):OwnK k w B t (some ⟨g,0,none⟩) n n l:=
 ⟨hn,by simp[hn],.inr ⟨g,n,_,rfl,hB,h,Nat.le_refl _,hm,by simp[hn],by simp;rw[List.take_of_length_le yw]⟩⟩
theorem OwnK.far(h:OwnK k w B t A n c l){p:Addr}(u:Value)(hp:∀a,A=some a→a.block≠p.block):OwnK k (w.setCell p u) B t A n c l:=by
 obtain⟨h1,h2,h3⟩:=h;refine⟨h1,h2,?_⟩
 rcases h3 with h3|⟨g,cap,cur,he,hg,hh,hr⟩
 ·exact .inl h3
 refine .inr ⟨g,cap,cur,he,hg,?_,hr⟩
 injection he with e1
 rw[Below.heap_setCell w p u g (hp _ e1)];exact hh
end
def TyB(w:World)(b:Nat)(t:TypeId):Prop:=∃cs fr,w.heap[b]? = some (.cells cs t fr)
theorem TyB.lt{w:World}{b:Nat}{t:TypeId}(h:TyB w b t):b<w.heap.size:=by
 obtain⟨cs,fr,h⟩:=h
 rcases Nat.lt_or_ge b w.heap.size with hlt|hge
 ·exact hlt
 rw[Array.getElem?_eq_none hge] at h;cases h
theorem TyB.below{w w':World}{b:Nat}{t:TypeId}(h:TyB w b t)(hb:Below w.heap.size w w'):TyB w' b t:=by
 have hl:=h.lt;obtain⟨cs,fr,h⟩:=h;exact⟨cs,fr,(hb.block b hl).trans h⟩
theorem KBlk.ty{k:IntKind}{w:World}{g:Nat}{t:TypeId}{l:List Int}(h:KBlk k w g t l):TyB w g t:=⟨_,_,h⟩
theorem OwnK.ty{k:IntKind}{w:World}{B:Nat}{t:TypeId}{A:Option Addr}{n c:Nat}{l:List Int}(h:OwnK k w B t A n c l)(hn:0<n):∃a,A=some a∧B≤a.block∧TyB w a.block t:=by
 rcases h.2.2 with ⟨he,h0⟩|⟨g,cap,cur,he,hg,hh,_⟩
 ·omega
 injection he with e1
 exact⟨_,e1,hg,_,_,hh⟩
section
variable {P:Program} (w:World)
theorem zxg{ops:Array Oper}{rest:List Oper}{o:Oper}{a:Act}{Q:Exit→Act→World→Prop}
  (hg:o.guard=none) (l c:Operand) (t:TypeId) (hop:o.op=Op.makeSlice t l c) (e:TypeId) (k:IntKind) (bytes:Nat) (h1:P.underlying t=some (.slice e))
  (h2:(P.info? e).map (fun i=>(i.zero,i.size,i.bytes))=some (some (.int k 0),1,bytes))
  (kl kc:IntKind) (L C:Int) (n:Nat) (hl:a.eval l=.int kl L) (hc:a.eval c=.int kc C) (hL:L=(n:Int)) (hC:C=(n:Int)) (b2:bytes*n≤281474976710656) (b3:n≤maxLen)
  (hK:∀w',KBlk k w' w.heap.size e (List.replicate n 0)→Below w.heap.size w w'→w'.heap.size=w.heap.size+1→wpList P ops Q rest (a.put o.dst (.slice (some ⟨w.heap.size,0,none⟩) n n)) w') :
  wpList P ops Q (o::rest) a w:=by
 obtain⟨i,hi,hz,hs,hb⟩:=info_parts h2;refine wpList_plain hg fun K hK'=>?_;subst hL hC hb;have h63:(n:Int)≤9223372036854775807:=by have:=b3;unfold maxLen at this;omega
 have hb':(i.bytes:Int)*(n:Int)≤281474976710656:=by
  have h:((i.bytes*n:Nat):Int)≤281474976710656:=by omega
  rwa [Int.natCast_mul] at h
 have hrun:=run_make (P:=P) w t e i _ h1 hi hz kl kc n n xq (Int.le_refl _) hb' h63
 unfold Oper.wp
 simp[execOp,hop,hl,hc,hrun,Result.andThen]
 refine hK' _ _ (hK _ ?_ ((Below.refl _ _).alloc qyl _) (by simp))
 unfold KBlk
 rw[heap_alloc_new,hs,Nat.mul_one]
 congr 2
 apply Array.ext'
 have h3:=toList_madeCells_one (.int k 0) n
 simp only[Value.cells]
 rw[h3]
 simp
theorem zxh{ops:Array Oper}{rest:List Oper}{o:Oper}{a:Act}{Q:Exit→Act→World→Prop}(hgd:o.guard=none)(s x:Operand)(t:TypeId)
  (ho:o.op=.call { callee:=.builtin .append,args:=#[s,x],argTypes:=#[t,t] })
  (e:TypeId) (k:IntKind) (bytes:Nat) (h1:P.underlying t=some (.slice e)) (h2:(P.info? e).map (fun i=>(i.zero,i.size,i.bytes))=some (some (.int k 0),1,bytes))
  (base:Nat) (A:Option Addr) (n c:Nat) (l:List Int) (hs:a.eval s=.slice A n c) (hown:OwnK k w base e A n c l)
  (A':Option Addr) (m c':Nat) (news:List Int) (hx:a.eval x=.slice A' m c') (hr:SlR k w A' m c' news)
  (h63:n+m≤maxLen) (hbytes:(n+m)*bytes≤140737488355328) (hbase:base≤w.heap.size)
  (h:∀A₁ c₁ w',OwnK k w' base e A₁ (n+m) c₁ (l++news)→Below base w w'→wpList P ops Q rest (a.put o.dst (.slice A₁ (n+m) c₁)) w'):wpList P ops Q (o::rest) a w:=by
 obtain⟨i,hi,hz,hsz,hb⟩:=info_parts h2;refine wpList_plain hgd fun K hK=>?_
 have key:∃v' w',(Builtin.append_ #[t,t] o.type #[.slice A n c,.slice A' m c']).run P w=.ok v' w'∧w'.ownsRow base e 1 v' (n+m) ((l++news).map (Value.int k))∧Below base w w':=by
  rcases A' with _|ad
  ·have h0:m=0:=by
    rcases Nat.eq_zero_or_pos m with h0|h0
    ·exact h0
    obtain⟨b,q,he,_⟩:=hr.2.2.2 h0;cases he
   subst h0;have hn:news=[]:=List.eq_nil_of_length_eq_zero hr.1;subst hn;refine⟨.slice A n c,w,?_,by simpa using hown.2,Below.refl _ _⟩
   rcases hown.2.2 with ⟨he,hn⟩|⟨g,cap,cur,he,_,hh,hnc,_⟩
   ·injection he with e1 e2 e3
    subst e1 e2 e3
    simp[Builtin.append_,run_underlying h1,sizeOf,typeInfo,hi,Builtin.lenOf,Builtin.firstCells]
   injection he with e1 e2 e3
   subst e1 e3
   simp[Builtin.append_,run_underlying h1,sizeOf,typeInfo,hi,Builtin.lenOf,Builtin.firstCells,hnc,storeCells]
  obtain⟨v',w',hrun,g1,g2,_,_⟩:=run_append_own_at (P:=P) w base t o.type e i _ 1 bytes h1 hi hz hsz hb rfl xq _ n _ hown.2 ad m c' (news.map (Value.int k)) (by simpa using hr.1)
   (by
    intro j u hu;have hj:j<m:=by rw[←hr.1];rcases Nat.lt_or_ge j news.length with h'|h';exact h';simp[List.getElem?_eq_none h'] at hu
    obtain⟨b,q,he,hlt,hcell⟩:=hr.2.2.2 xq
    injection he with he
    subst he;rw[show(⟨b,q,none⟩:Addr).add j=⟨b,q+j,none⟩ by unfold Addr.add;split<;>simp_all,hcell j hj,←hu]
    simp[show j<news.length by rw[hr.1];exact hj])
   (by intro u hu;simp at hu;obtain⟨z,_,rfl⟩:=hu;rfl) h63 hbytes hbase
  refine⟨v',w',hrun,by simpa using g1,(Below.refl _ _).grown g2 hbase (fun j hj=>(hown.2.lt j hj).1)⟩
 obtain⟨v',w',hrun,g1,g2⟩:=key
 obtain⟨A₁,c₁,hv⟩:∃A₁ c₁,v'=.slice A₁ (n+m) c₁:=by
  rcases g1.2 with ⟨he,hn⟩|⟨g,cap,cur,he,_⟩
  ·exact⟨none,0,by rw[he,hn]⟩
  exact⟨_,_,he⟩
 subst hv;have hown':OwnK k w' base e A₁ (n+m) c₁ (l++news):=⟨by simp[hown.1,hr.1],g1⟩
 unfold Oper.wp execOp
 simp only[ho,resolve,invoke,builtin,Sem.run_bind,Sem.run_pure,Result.andThen_ok,List.map_toArray,List.map_cons,List.map_nil,hs,hx,hrun]
 exact hK _ _ (h A₁ c₁ w' hown' g2)
end
def hidO:Obj:=.pending #[] 0
structure Ext(u u':World):Prop where
 size:u.heap.size≤u'.heap.size
 vis:∀(b:Nat) (o:Obj),u.heap[b]? = some o→o≠hidO→u'.heap[b]? = some o
structure Dat(u w:World):Prop where
 size:u.heap.size=w.heap.size
 vis:∀(b:Nat) (o:Obj),u.heap[b]? = some o→o≠hidO→w.heap[b]? = some o
structure Grow(u u':World):Prop where
 size:u.heap.size≤u'.heap.size
 old:∀(b:Nat),b<u.heap.size→u'.heap[b]? = u.heap[b]?
section
variable {u u' u'' w w':World}
theorem zyz{b:Nat}{o:Obj}(h:u.heap[b]? = some o):b<u.heap.size:=by
 rcases Nat.lt_or_ge b u.heap.size with hlt|hge
 ·exact hlt
 rw[Array.getElem?_eq_none hge] at h;cases h
theorem Ext.refl(u:World):Ext u u:=⟨Nat.le_refl _,fun _ _ h _=>h⟩
theorem Ext.trans(h:Ext u u')(k:Ext u' u''):Ext u u'':=⟨Nat.le_trans h.size k.size,fun b o a c=>k.vis b o (h.vis b o a c) c⟩
structure GrowF(F:List Nat)(u u':World):Prop where
 size:u.heap.size≤u'.heap.size
 old:∀b,b<u.heap.size→b∉F→u'.heap[b]? = u.heap[b]?
theorem GrowF.refl(F:List Nat)(u:World):GrowF F u u:=⟨Nat.le_refl _,fun _ _ _=>rfl⟩
theorem GrowF.trans{F:List Nat}(h:GrowF F u u')(k:Grow u' u''):GrowF F u u'':=⟨Nat.le_trans h.size k.size,fun b hb hf=>(k.old b (Nat.lt_of_lt_of_le hb h.size)).trans (h.old b hb hf)⟩
theorem GrowF.nil(h:GrowF [] u u'):Grow u u':=⟨h.size,fun b hb=>h.old b hb (by simp)⟩
theorem Grow.ext(h:Grow u u'):Ext u u':=⟨h.size,fun b o a _=>(h.old b (zyz a)).trans a⟩
theorem Dat.ext(h:Dat u w):Ext u w:=⟨Nat.le_of_eq h.size,h.vis⟩
theorem Ext.t{u u' u'':World}(h:Ext u u')(k:Ext u' u''):Ext u u'':=h.trans k
theorem Grow.t{v:World}(h:Grow u u')(k9:Ext u' v):Ext u v:=h.ext.trans k9
theorem xe{u v:World}(h:Ext u v:=by first|exact Ext.refl _|(repeat first|assumption|(apply Ext.trans;case k=>assumption)|(apply Ext.trans;case k=>exact Grow.ext (by assumption)))):Ext u v:=h
theorem Dat.t{v:World}(h:Dat u w)(k9:Ext w v):Ext u v:=h.ext.trans k9
theorem Dat.refl(w:World):Dat w w:=⟨rfl,fun _ _ h _=>h⟩
theorem Ext.cell(h:Ext u u'){p:Addr}{v:Value}(hc:u.cell? p=some v):u'.cell? p=some v:=by
 unfold World.cell? at hc ⊢
 cases hb:u.heap[p.block]? with
 | none=>rw[hb] at hc;cases hc
 | some o=>
  rw[hb] at hc
  cases o with
  | cells c t fr=>rw[h.vis _ _ hb (by unfold hidO;exact fun e=>by cases e)];exact hc
  | _=>cases hc
theorem Ext.cells(h:Ext u u'){b:Nat}{t:TypeId}{cs:Array Value}{fr:Nat×Nat}(hb:u.heap[b]? = some (.cells cs t fr)):u'.heap[b]? = some (.cells cs t fr):=
 h.vis _ _ hb (by unfold hidO;exact fun e=>by cases e)
theorem SlR.ext{k:IntKind}{A:Option Addr}{n c:Nat}{l:List Int}(h:SlR k u A n c l)(e:Ext u u'):SlR k u' A n c l:=by
 obtain⟨h1,h2,h3,h4⟩:=h;refine⟨h1,h2,h3,fun hp=>?_⟩;obtain⟨b,o,rfl,hlt,hc⟩:=h4 hp;exact⟨b,o,rfl,Nat.lt_of_lt_of_le hlt e.size,fun i hi=>e.cell (hc i hi)⟩
def over(u w':World):World:={ w' with heap:=u.heap++w'.heap.extract u.heap.size w'.heap.size }
theorem over_size(h:u.heap.size≤w'.heap.size):(over u w').heap.size=w'.heap.size:=by
 simp[over];omega
theorem over_old{b:Nat}(h:b<u.heap.size):(over u w').heap[b]? = u.heap[b]? := by
 simp only[over];rw[Array.getElem?_append_left h]
theorem over_new{b:Nat}(h:u.heap.size≤b):(over u w').heap[b]? = w'.heap[b]? := by
 simp only[over];rw[Array.getElem?_append_right h,Array.getElem?_extract]
 by_cases hb:b<w'.heap.size
 ·rw[if_pos xq];congr 1;omega
 rw[if_neg xq,Array.getElem?_eq_none xq]
theorem over_grow(h:u.heap.size≤w'.heap.size):Grow u (over u w'):=⟨by rw[over_size h];exact h,fun b hb=>over_old hb⟩
theorem over_dat(h:Dat u w)(hb:Below w.heap.size w w'):Dat (over u w') w':=by
 have hs:u.heap.size≤w'.heap.size:=by rw[h.size];exact hb.size
 refine⟨over_size hs,fun b o ho hh=>?_⟩
 rcases Nat.lt_or_ge b u.heap.size with hlt|hge
 ·rw[over_old hlt] at ho;rw[hb.block b (by rw[←h.size];exact hlt)];exact h.vis b o ho hh
 rw[over_new hge] at ho;exact ho
theorem over_cell{b o:Nat}(h:u.heap.size≤b):(over u w').cell? ⟨b,o,none⟩=w'.cell? ⟨b,o,none⟩:=by
 simp only[World.cell?];rw[over_new h]
theorem SlR.over{k:IntKind}{A:Option Addr}{n c:Nat}{l:List Int}(h:SlR k w' A n c l)(hA:0<n→∃a,A=some a∧u.heap.size≤a.block)(hs:u.heap.size≤w'.heap.size):SlR k (over u w') A n c l:=by
 obtain⟨h1,h2,h3,h4⟩:=h;refine⟨h1,h2,h3,fun hp=>?_⟩;obtain⟨b,o,rfl,hlt,hc⟩:=h4 hp;obtain⟨a,e,ha⟩:=hA hp
 cases e
 exact⟨b,o,rfl,by rw[over_size hs];exact hlt,fun i hi=>by rw[over_cell ha];exact hc i hi⟩
end
def Post(u w:World)(Φ:Value→World→Prop)(e:Ending)(w':World):Prop:=
 ∃v u',e=.returned v∧Dat u' w'∧Below w.heap.size w w'∧Grow u u'∧Φ v u'
theorem qym{P:Program}{f:FuncId}{args:Array Value}{u w:World}{Φ Ψ:Value→World→Prop}(h:Calls P f args w (Post u w Φ))(k:∀v u',Grow u u'→Φ v u'→Ψ v u'):Calls P f args w (Post u w Ψ):=
 h.mono fun e w' ⟨v,u',h1,h2,h3,h4,h5⟩=>⟨v,u',h1,h2,h3,h4,k v u' h4 h5⟩
inductive SV where
 | v (x:Value)
 | adr (t:Tmp) (off:Nat)
 | slc (t:Tmp) (off n c:Nat)
 | ags (cs:List Value) (t:Tmp) (off n c:Nat)
 | agm (cs:List Value) (t:Tmp) (off n c:Nat) (ds:List Value)
@[reducible] def zI(z:Int):SV:=.v (.int .i64 z)
@[reducible] def zB(b:Bool):SV:=.v (.bool b)
theorem zPm{P:Program}{f:FuncId}{args:Array Value}{u w:World}{Φ Ψ:Value→World→Prop}(h:Calls P f args w (Post u w Φ))(k:∀v u',Grow u u'→Φ v u'→Ψ v u'):Calls P f args w (Post u w Ψ):=qym h k
def SV.conc(B:Tmp→Nat):SV→Value
 | .v x=>x
 | .adr t off=>.pointer (some ⟨B t,off,none⟩)
 | .slc t off n c=>.slice (some ⟨B t,off,none⟩) n c
 | .ags cs t off n c=>.agg (cs++[Value.slice (some ⟨B t,off,none⟩) n c]).toArray
 | .agm cs t off n c ds=>.agg (cs++Value.slice (some ⟨B t,off,none⟩) n c::ds).toArray
def SV.at? : SV→Option Tmp
 | .v _=>none
 | .adr t _=>some t
 | .slc t _ _ _=>some t
 | .ags _ t _ _ _=>some t
 | .agm _ t _ _ _ _=>some t
theorem SV.conc_congr{B B':Tmp→Nat}{x:SV}(h:∀t,x.at? = some t→B t=B' t):x.conc B=x.conc B':=by
 cases x<;>simp[SV.conc,SV.at?] at * <;> rw[h]
structure Vr where
 ty:TypeId
 cs:List Value
structure St where
 n:Nat
 reg:Tmp→Option SV
 var:Tmp→Option Vr
def upd{α:Type}(f:Tmp→Option α)(t:Tmp)(x:Option α):Tmp→Option α:=fun s=>bif Nat.beq s t then x else f s
theorem zxb{α:Type}(f:Tmp→Option α)(t:Tmp)(x:Option α):upd f t x t=x:=by simp[upd]
theorem upd_ne{α:Type}(f:Tmp→Option α){t s:Tmp}(x:Option α)(h:s≠t):upd f t x s=f s:=by
 have:Nat.beq s t=false:=by
  cases e:Nat.beq s t with
  | true=>exact absurd (Nat.eq_of_beq_eq_true e) h
  | false=>rfl
 simp[upd,this]
theorem upd_comm{α:Type}(f:Tmp→Option α){t s:Tmp}(x y:Option α)(h:s≠t):upd (upd f t x) s y=upd (upd f s y) t x:=by
 funext r
 by_cases h1:r=s
 ·subst h1;rw[zxb,upd_ne _ _ h,zxb]
 by_cases h2:r=t
 ·subst h2;rw[upd_ne _ _ h1,zxb,zxb]
 rw[upd_ne _ _ h1,upd_ne _ _ h2,upd_ne _ _ h2,upd_ne _ _ h1]
inductive Up where
 | set (x:SV)
 | drop
 | new (V:Vr)
 | lit (V:Vr) (n:Nat)
def St.put(S:St)(d:Option Tmp)(x:Option SV):St:=match d with|some t=>{ S with reg:=upd S.reg t x }|none=>S
def St.app(S:St)(d:Option Tmp):Up→St
 | .set x=>S.put d (some x)
 | .drop=>S.put d (some (.v undef))
 | .new V=>match d with|some t=>{ S with reg:=upd S.reg t (some (.adr t 0)),var:=upd S.var t (some V) }|none=>S
 | .lit V n=>match d with|some t=>{ S with reg:=upd S.reg t (some (.slc t 0 n n)),var:=upd S.var t (some V) }|none=>S
structure St.Wf(S:St):Prop where
 reg:∀r x t,S.reg r=some x→x.at? = some t→∃V,S.var t=some V
structure RegOK(S:St)(B:Tmp→Nat)(a:Act):Prop where
 reg:∀t x,S.reg t=some x→a.tmps[t]? = some (x.conc B)
 size:a.tmps.size=S.n
structure Base where
 w:World
 lent:Option (Tmp×Nat)
 free:List Nat
structure Bel(w0:Base)(w:World):Prop where
 os:w.os=w0.w.os
 tape:w.tape=w0.w.tape
 output:w.output=w0.w.output
 size:w0.w.heap.size≤w.heap.size
 block:∀k,k<w0.w.heap.size→(∀t,w0.lent≠some (t,k))→k∉w0.free→w.heap[k]? = w0.w.heap[k]?
theorem Bel.trans{w0:Base}{w w':World}(h:Bel w0 w)(k:Below w0.w.heap.size w w'):Bel w0 w':=
 ⟨k.os.trans h.os,k.tape.trans h.tape,k.output.trans h.output,Nat.le_trans h.size k.size,fun i hi hl hf=>(k.block i hi).trans (h.block i hi hl hf)⟩
theorem Bel.alloc{w0:Base}{w:World}(h:Bel w0 w)(ob:Obj):Bel w0 (w.alloc ob):=h.trans ((Below.refl _ w).alloc h.size ob)
def Own(w0:Base)(u0:World)(n t b:Nat):Prop:=(t<n→u0.heap.size≤b)∧(n≤t→w0.lent=some (t,b))
theorem Own.mk0{w0:Base}{u0:World}{n t b:Nat}(h:t<n)(k:u0.heap.size≤b):Own w0 u0 n t b:=⟨fun _=>k,fun e=>absurd h xq⟩
structure Rep(w0:Base)(u0:World)(S:St)(B:Tmp→Nat)(a:Act)(w u:World):Prop where
 regs:RegOK S B a
 wf:S.Wf
 defers:a.defers=[]
 var:∀t V,S.var t=some V→w.heap[B t]? = some (.cells V.cs.toArray V.ty (0,0))∧u.heap[B t]? = some hidO∧Own w0 u0 S.n t (B t)
 inj:∀t t' V V',S.var t=some V→S.var t'=some V'→B t=B t'→t=t'
 dat:Dat u w
 base:u0.heap.size=w0.w.heap.size
 grow:GrowF w0.free u0 u
 bel:Bel w0 w
theorem RegOK.eval{S:St}{B:Tmp→Nat}{a:Act}(h:RegOK S B a){t:Tmp}{x:SV}(ht:S.reg t=some x):a.eval (.tmp t)=x.conc B:=by
 simp[Act.eval,h.reg t x ht]
theorem Act.put_size(a:Act)(d:Option Tmp)(v:Value):(a.put d v).tmps.size=a.tmps.size:=by cases d<;>simp[Act.put]
theorem Act.put_get_ne(a:Act){d:Option Tmp}{t:Tmp}(v:Value)(h:d≠some t):(a.put d v).tmps[t]? = a.tmps[t]? := by
 cases d with
 | none=>rfl
 | some s=>simp[Act.put];rw[Array.getElem?_setIfInBounds_ne (fun e=>h (by rw[e]))]
theorem Act.put_get_same(a:Act){t:Tmp}(v:Value)(h:t<a.tmps.size):(a.put (some t) v).tmps[t]? = some v:=by
 simp[Act.put,h]
section
variable (P:Program) (ops:Array Oper) (w0:Base) (u0:World)
def Want(o:Oper)(a:Act)(b:Bool):Prop:=Region.wanted o (yielded ops a.tmps)=b
def From(o:Oper)(S:St)(x:SV):Prop:=∀t,x.at? = some t→∃r∈o.looksAt ops,∃z,S.reg r=some z∧z.at? = some t
def TyIs(T:TypeId)(agg:Bool)(n:Nat):Prop:=∀w,(isAgg T).run P w=.ok agg w∧(sizeOf T).run P w=.ok n w
def PartIs(cs:List Value)(off:Nat)(agg:Bool)(n:Nat)(x:SV):Prop:=
 match agg with
 | true=>off+n≤cs.length∧x=.v (.agg ((cs.drop off).take n).toArray)
 | false=>∃v,cs[off]? = some v∧x=.v v
def Free(o:Oper)(S:St):Prop:=∀d,o.dst=some d→d<S.n∧(S.reg d).bind SV.at? = none
def DoesUp(o:Oper)(S:St)(u:World):Up→Prop
 | .drop=>Free o S∧∀B a,RegOK S B a→Want ops o a false
 | .set x=>Free o S ∧
   ((From ops o S x∧∀B a w u',RegOK S B a→Ext u u'→Dat u' w→Want ops o a true∧(execOp a.eval o).run P w=.ok (.value (x.conc B)) w) ∨
    (∃T r s off V agg n,o.op=.load T (.tmp r)∧S.reg r=some (.adr s off)∧S.var s=some V∧TyIs P T agg n∧PartIs V.cs off agg n x∧∀B a,RegOK S B a→Want ops o a true))
 | .new V=>Free o S∧∃t,o.dst=some t∧S.var t=none ∧
   ∀B a w,RegOK S B a→Want ops o a true∧(execOp a.eval o).run P w=.ok (.value (.pointer (some ⟨w.heap.size,0,none⟩))) (w.alloc (.cells V.cs.toArray V.ty))
 | .lit V n=>Free o S∧∃t,o.dst=some t∧S.var t=none ∧
   ∀B a w,RegOK S B a→Want ops o a true∧(execOp a.eval o).run P w=.ok (.value (.slice (some ⟨w.heap.size,0,none⟩) n n)) (w.alloc (.cells V.cs.toArray V.ty))
def DoesCall(o:Oper)(S:St)(f:FuncId)(args:List SV):Prop:=
 Free o S∧(∀z∈args,From ops o S z)∧∀B a w,RegOK S B a→Want ops o a true∧(execOp a.eval o).run P w=.ok (.enter f (args.map (SV.conc B)).toArray) w
def St.unpub(S:St)(pubs:List Tmp):St:={ S with reg:=fun r=>bif pubs.contains r then none else S.reg r,var:=fun t=>bif pubs.contains t then none else S.var t }
def St.pv(S:St)(pubs:List Tmp):List Tmp:=pubs.filter fun t=>(S.var t).isSome
structure PubOK(S:St)(pubs:List Tmp):Prop where
 lt:∀t∈pubs,t<S.n
 reg:∀r x t,S.reg r=some x→x.at? = some t→t∈pubs→r∈pubs
def opK:Op→Nat
 | .call { callee:=.builtin .len,.. }|.call { callee:=.builtin .cap,.. }|.call { callee:=.builtin .max,.. }=>0
 | .call { callee:=.value _,.. }=>1
 | .move _|.assign _|.pick .. | .alloc _|.box .. | .build .. | .buildSlice .. | .load .. | .nilCheck _|.binOp .. | .unOp .. | .convert .. | .makeSlice .. | .slice .. | .fieldAddr .. | .field ..
 | .indexAddr .. | .index .. | .extract .. => 0
 | _=>2
def setL(cs:List Value)(off:Nat)(vs:List Value):List Value:=cs.take off++vs++cs.drop (off+vs.length)
def St.setVar(S:St)(s:Tmp)(V:Vr):St:=⟨S.n,S.reg,upd S.var s (some V)⟩
def isStore:Op→Bool
 | .store .. => true
 | _=>false
def DoesStore(o:Oper)(S:St)(nl:List Tmp)(s:Tmp)(V':Vr):Prop:=
 ∃T r z off V v agg n,o.op=.store T (.tmp r) z∧o.dst=none∧S.reg r=some (.adr s off)∧S.var s=some V∧(∀B a,RegOK S B a→a.eval z=v)∧TyIs P T agg n∧v.cells.size=n∧v.cells.toList.all Value.oneCell'=true∧off+n≤V.cs.length ∧
  V'=⟨V.ty,setL V.cs off v.cells.toList⟩∧(∀B a,RegOK S B a→Want ops o a true)∧∀r'∈nl,∀t off',S.reg r'=some (.adr t off')→t≠s
def Visible(S:St)(B:Tmp→Nat)(u:World)(pubs:List Tmp):Prop:=∀t∈pubs,∀V,S.var t=some V→u.heap[B t]? = some (.cells V.cs.toArray V.ty (0,0))
def one(seq:Bool)(e:Oper×List Tmp)(S:St)(u:World)(k:St→World→Prop):Prop:=
 (opK e.1.op≠2∧∃up,DoesUp P ops e.1 S u up∧k (S.app e.1.dst up) u) ∨
 (opK e.1.op=1∧∃f args pubs,(seq=false→pubs=e.2)∧DoesCall P ops e.1 S f args∧PubOK S pubs∧∀B w u1,Ext u u1→Dat u1 w→Visible S B u1 pubs →
  Calls P f (args.map (SV.conc B)).toArray w (Post u1 w fun v u2=>k ((S.unpub pubs).put e.1.dst (some (.v v))) u2)) ∨
 ((seq=true∨(opK e.1.op=2∧isStore e.1.op=false))∧∀B a w u',Ext u u'→Rep w0 u0 S B a w u'→Want ops e.1 a true ∧
  e.1.wp P a w (fun a' w'=>∃S' B' u'' u2,Rep w0 u0 S' B' a' w' u''∧(seq=false→Ext u' u'')∧(seq=false→Ext u u2)∧Ext u2 u''∧k S' u2) (fun _ _ _=>False)) ∨
 (∃s V',DoesStore P ops e.1 S e.2 s V'∧k (S.setVar s V') u) ∨
 (seq=false∧e.2≠[]∧opK e.1.op≠2∧∃V n,DoesUp P ops e.1 S u (.lit V n)∧∀b u1,Ext u u1→u1.heap[b]? = some (.cells V.cs.toArray V.ty (0,0))→u0.heap.size≤b→u.heap.size≤b→k (S.put e.1.dst (some (.v (.slice (some ⟨b,0,none⟩) n n)))) u1)
def sym(seq:Bool):List (Oper×List Tmp)→St→World→(St→World→Prop)→Prop
 | [],S,u,K=>K S u
 | e::rest,S,u,K=>one P ops w0 u0 seq e S u (fun S' u'=>sym seq rest S' u' K)
end
section
variable {P:Program} {ops:Array Oper} {w0:Base} {u0:World}
theorem DoesUp.mono{o:Oper}{S:St}{u u':World}{up:Up}(h:DoesUp P ops o S u up)(e:Ext u u'):DoesUp P ops o S u' up:=by
 cases up with
 | set x=>exact⟨h.1,h.2.imp (fun⟨h1,h2⟩=>⟨h1,fun B a w u'' hr he hd=>h2 B a w u'' hr (e.trans he) hd⟩) id⟩
 | _=>exact h
def Mono(K:St→World→Prop):Prop:=∀S u u',Ext u u'→K S u→K S u'
theorem one_mono{seq:Bool}{e:Oper×List Tmp}{S:St}{u u':World}{k k':St→World→Prop}(hk:∀S u,k S u→k' S u)(hm:Mono k)(he:Ext u u')(h:one P ops w0 u0 seq e S u k):one P ops w0 u0 seq e S u' k':=by
 rcases h with ⟨h0,up,h1,h2⟩|⟨h0,f,args,pubs,hp,h1,h2,h3⟩|⟨h0,h1⟩|⟨s,V',h1,h2⟩|⟨hs,hp2,hk2,V,n,h1,h2⟩
 ·exact .inl ⟨h0,up,h1.mono he,hk _ _ (hm _ _ _ he h2)⟩
 ·exact .inr (.inl ⟨h0,f,args,pubs,hp,h1,h2,fun B w u1 e1 d1 v1=>qym (h3 B w u1 (he.trans e1) d1 v1) fun v u2 _=>hk _ _⟩)
 ·refine .inr (.inr (.inl ⟨h0,fun B a w u'' e1 r1=>?_⟩));obtain⟨g1,g2⟩:=h1 B a w u'' (he.trans e1) r1;exact⟨g1,Oper.wp_mono (fun a' w' ⟨S',B',u3,u2,a1,a2,a3,a4,a5⟩=>⟨S',B',u3,u3,a1,a2,fun hs=>e1.trans (a2 hs),Ext.refl _,hk _ _ (hm _ _ _ a4 a5)⟩) g2⟩
 ·exact .inr (.inr (.inr (.inl ⟨s,V',h1,hk _ _ (hm _ _ _ he h2)⟩)))
 exact .inr (.inr (.inr (.inr ⟨hs,hp2,hk2,V,n,h1.mono he,fun b u1 e1 b1 b2 b3=>hk _ _ (h2 b u1 (he.trans e1) b1 b2 (Nat.le_trans he.size b3))⟩)))
theorem zwc{seq:Bool}{l:List (Oper×List Tmp)}{K:St→World→Prop}(hK:Mono K):Mono (fun S u=>sym P ops w0 u0 seq l S u K):=by
 induction l with
 | nil=>exact hK
 | cons e rest ih=>exact fun S u u' he h=>one_mono (fun _ _ h=>h) ih he h
end
section
variable {P:Program} {ops:Array Oper} {w0:Base} {u0:World} {S:St} {B:Tmp→Nat} {a:Act} {w u:World} {o:Oper}
theorem put_reg_some{d:Option Tmp}{x:Option SV}{t:Tmp}{z:SV}(h:(S.put d x).reg t=some z):(d=some t∧x=some z)∨(d≠some t∧S.reg t=some z):=by
 cases d with
 | none=>exact .inr ⟨by simp,h⟩
 | some s=>
  by_cases e:t=s
  ·subst e;simp only[St.put,zxb] at h;exact .inl ⟨rfl,h⟩
  simp only[St.put,upd_ne _ _ e] at h;exact .inr ⟨fun k=>by injection k with k;exact e k.symm,h⟩
theorem put_var(d:Option Tmp)(x:Option SV):(S.put d x).var=S.var:=by cases d<;>rfl
theorem put_n(d:Option Tmp)(x:Option SV):(S.put d x).n=S.n:=by cases d<;>rfl
theorem wf_put{d:Option Tmp}{x:Option SV}(h:S.Wf)(hx:∀z t,x=some z→z.at? = some t→∃V,S.var t=some V):(S.put d x).Wf:=by
 refine⟨fun r z t hr ht=>?_⟩;rw[put_var]
 rcases put_reg_some hr with ⟨_,e⟩|⟨_,e⟩
 ·exact hx z t e ht
 exact h.reg r z t e ht
theorem regOK_put{d:Option Tmp}{x:Option SV}{v:Value}(h:RegOK S B a)(hd:∀t,d=some t→t<S.n)(hx:∀z,x=some z→v=z.conc B):RegOK (S.put d x) B (a.put d v):=by
 refine⟨fun t z ht=>?_,by rw[put_n,Act.put_size];exact h.size⟩
 rcases put_reg_some ht with ⟨rfl,e⟩|⟨hne,e⟩
 ·rw[Act.put_get_same _ _ (by rw[h.size];exact hd t rfl),hx z e]
 rw[Act.put_get_ne _ _ hne];exact h.reg t z e
theorem put_defers(a:Act)(d:Option Tmp)(v:Value):(a.put d v).defers=a.defers:=by cases d<;>rfl
theorem Rep.set{d:Option Tmp}{x:Option SV}{v:Value}(h:Rep w0 u0 S B a w u)(hd:∀t,d=some t→t<S.n)(hx:∀z,x=some z→v=z.conc B)
  (hf:∀z t,x=some z→z.at? = some t→∃V,S.var t=some V):Rep w0 u0 (S.put d x) B (a.put d v) w u:=
 ⟨regOK_put h.regs hd hx,wf_put h.wf hf,by rw[put_defers];exact h.defers,by rw[put_var,put_n];exact h.var,by rw[put_var];exact h.inj,h.dat,h.base,h.grow,h.bel⟩
theorem Rep.lt(h:Rep w0 u0 S B a w u){t:Tmp}{V:Vr}(hv:S.var t=some V):B t<w.heap.size:=zyz (h.var t V hv).1
theorem zxp(w:World)(ob:Obj){b:Nat}(h:b<w.heap.size):(w.alloc ob).heap[b]? = w.heap[b]? := Below.heap_alloc w ob b h
theorem zxq(w:World)(ob:Obj):(w.alloc ob).heap[w.heap.size]? = some ob:=heap_alloc_new w ob
theorem alloc_size(w:World)(ob:Obj):(w.alloc ob).heap.size=w.heap.size+1:=by simp
theorem dat_alloc(h:Dat u w)(ob:Obj):Dat (u.alloc hidO) (w.alloc ob):=by
 refine⟨by rw[alloc_size,alloc_size,h.size],fun b o hb hh=>?_⟩
 rcases Nat.lt_or_ge b u.heap.size with hlt|hge
 ·rw[zxp _ _ hlt] at hb;rw[zxp _ _ (by rw[←h.size];exact hlt)];exact h.vis b o hb hh
 have:b=u.heap.size:=by have:=zyz hb;rw[alloc_size] at this;omega
 subst this;rw[zxq] at hb
 injection hb with hb
 exact absurd hb.symm hh
theorem zxt(u:World)(ob:Obj):Grow u (u.alloc ob):=⟨by rw[alloc_size];omega,fun b hb=>zxp u ob hb⟩
def setB(B:Tmp→Nat)(t:Tmp)(b:Nat):Tmp→Nat:=fun s=>if s=t then b else B s
theorem conc_setB{x:SV}{t:Tmp}{b:Nat}(h:x.at? ≠ some t):x.conc (setB B t b)=x.conc B:=by
 apply SV.conc_congr
 intro s hs;rw[setB,if_neg];rintro rfl;exact h hs
theorem Rep.new{t:Tmp}{V:Vr}{y:SV}(h:Rep w0 u0 S B a w u)(ht:t<S.n)(hn:S.var t=none)(hr:(S.reg t).bind SV.at? = none)(hy:y.at? = some t):
  Rep w0 u0 { S with reg:=upd S.reg t (some y),var:=upd S.var t (some V) } (setB B t w.heap.size) (a.put (some t) (y.conc (setB B t w.heap.size))) (w.alloc (.cells V.cs.toArray V.ty)) (u.alloc hidO):=by
 have hno:∀r x,S.reg r=some x→x.at? ≠ some t:=fun r x hx e=>by
  obtain⟨V',e'⟩:=h.wf.reg r x t hx e;rw[hn] at e';cases e'
 have hus:u.heap.size=w.heap.size:=h.dat.size;refine⟨⟨fun r x hx=>?_,by rw[Act.put_size];exact h.regs.size⟩,⟨fun r x s hx hs=>?_⟩,by rw[put_defers];exact h.defers,fun s V' hs=>?_,fun s s' V1 V2 h1 h2 e=>?_,dat_alloc h.dat _,h.base,h.grow.trans (zxt _ _),?_⟩
 ·by_cases e:r=t
  ·subst e
   simp only[zxb] at hx
   injection hx with hx
   subst hx;exact Act.put_get_same _ _ (by rw[h.regs.size];exact ht)
  simp only[upd_ne _ _ e] at hx
  rw[Act.put_get_ne _ _ (fun k=>e (by injection k with k;exact k.symm)),conc_setB (hno r x hx)];exact h.regs.reg r x hx
 ·show ∃V',upd S.var t (some V) s=some V'
  by_cases e:s=t
  ·subst e;exact⟨V,zxb _ _ _⟩
  rw[upd_ne _ _ e]
  by_cases e2:r=t
  ·subst e2
   simp only[zxb] at hx
   injection hx with hx
   subst hx;rw[hy] at hs;injection hs with hs;exact absurd hs.symm e
  simp only[upd_ne _ _ e2] at hx
  exact h.wf.reg r x s hx hs
 ·by_cases e:s=t
  ·subst e
   simp only[zxb] at hs
   injection hs with hs
   subst hs;rw[show setB B s w.heap.size s=w.heap.size by simp[setB]];refine⟨zxq _ _,?_,?_⟩
   ·rw[←hus];exact zxq _ _
   rw[←hus];exact .mk0 ht h.grow.size
  simp only[upd_ne _ _ e] at hs
  obtain⟨h1,h2,h3⟩:=h.var s V' hs;rw[show setB B t w.heap.size s=B s by simp[setB,e]];exact⟨by rw[zxp _ _ (h.lt hs)];exact h1,by rw[zxp _ _ (zyz h2)];exact h2,h3⟩
 ·by_cases e1:s=t
  ·by_cases e2:s'=t
   ·rw[e1,e2]
   simp only[upd_ne _ _ e2] at h2
   have:=h.lt h2
   simp[setB,e1,e2] at e
   omega
  simp only[upd_ne _ _ e1] at h1
  by_cases e2:s'=t
  ·have:=h.lt h1
   simp[setB,e1,e2] at e
   omega
  simp only[upd_ne _ _ e2] at h2
  simp[setB,e1,e2] at e
  exact h.inj s s' V1 V2 h1 h2 e
 exact h.bel.alloc _
theorem run_val{P:Program}{w w':World}{s:Sem Value}{v:Value}(h:s.run P w=.ok v w'):(do pure (Next.value (←s)):Sem Next).run P w=.ok (.value v) w':=by
 simp[go_sem,h]
theorem addr_add(b off i:Nat):(⟨b,off,none⟩:Addr).add i=⟨b,off+i,none⟩:=by simp[Addr.add]
theorem run_loadCells{P:Program}{w:World}{b:Nat}{l:List Value}:∀(n off:Nat) (acc:Array Value) (i:Nat),(∀j,j<n→w.cell? ⟨b,off+i+j,none⟩=l[i+j]?)→i+n≤l.length →
  (loadCellsFrom ⟨b,off,none⟩ i n acc).run P w=.ok (acc++((l.drop i).take n).toArray) w:=by
 intro n
 induction n with
 | zero=>intro off acc i _ _;simp[loadCellsFrom,go_sem]
 | succ n ih=>
  intro off acc i h hl;have h0:=h 0 xq
  simp only[Nat.add_zero] at h0
  have hi:i<l.length:=by omega
  rw[List.getElem?_eq_getElem hi] at h0
  have e:(loadCellsFrom ⟨b,off,none⟩ i (n+1) acc).run P w=(loadCellsFrom ⟨b,off,none⟩ (i+1) n (acc.push l[i])).run P w:=by
   simp[loadCellsFrom,go_sem,addr_add,h0]
  rw[e,ih off _ (i+1) (fun j hj=>by have:=h (j+1) xq;rw[show off+(i+1)+j=off+i+(j+1) by omega,show i+1+j=i+(j+1) by omega];exact this) xq]
  congr 1
  rw[List.drop_eq_getElem_cons hi,List.take_succ_cons]
  simp
theorem run_load_var{T:TypeId}{agg:Bool}{n b off:Nat}{cs:List Value}{ty:TypeId}{w:World}(hT:TyIs P T agg n)(hb:w.heap[b]? = some (.cells cs.toArray ty (0,0))):
  (agg=true→off+n≤cs.length→(Instr.loadAt T (.pointer (some ⟨b,off,none⟩))).run P w=.ok (.agg ((cs.drop off).take n).toArray) w) ∧
  (agg=false→∀v,cs[off]? = some v→(Instr.loadAt T (.pointer (some ⟨b,off,none⟩))).run P w=.ok v w):=by
 have hc:∀i,w.cell? ⟨b,i,none⟩=cs[i]? := fun i=>by simp[World.cell?,hb]
 refine⟨?_,?_⟩
 ·rintro rfl hl;have e:=run_loadCells (P:=P) (w:=w) (b:=b) (l:=cs.drop off) n off #[] 0 (fun j hj=>by rw[hc];simp[Nat.add_comm]) yw
  simp only[List.drop_zero] at e
  have e2:(Instr.loadAt T (.pointer (some ⟨b,off,none⟩))).run P w=(do let x ←loadCells ⟨b,off,none⟩ n;pure (.agg x):Sem Value).run P w:=by
   simp[Instr.loadAt,Instr.sureAddr,loadVar,go_sem,(hT w).1,(hT w).2]
  rw[e2]
  simp[loadCells,go_sem,e]
 rintro rfl v hv
 simp[Instr.loadAt,Instr.sureAddr,loadVar,go_sem,(hT w).1,hc,hv]
theorem run_bind_ok{α β:Type}{s:Sem α}{k:α→Sem β}{v:α}{w':World}(h:s.run P w=.ok v w'):(s >>= k).run P w=(k v).run P w':=by
 rw[show(s >>= k).run P w=(s.run P w).andThen (fun a w'=>(k a).run P w') from by simp[go_sem],h]
 rfl
theorem setL_length{cs:List Value}{off:Nat}{vs:List Value}(h:off+vs.length≤cs.length):(setL cs off vs).length=cs.length:=by
 simp[setL];omega
theorem setL_nil(cs:List Value)(off:Nat):setL cs off []=cs:=by simp[setL]
theorem setL_cons{cs:List Value}{off:Nat}{v:Value}{vs:List Value}(h:off<cs.length):setL (cs.set off v) (off+1) vs=setL cs off (v::vs):=by
 simp only[setL,List.length_cons]
 rw[List.drop_set_of_lt xq,show off+1+vs.length=off+(vs.length+1) by omega]
 congr 1
 rw[List.take_set,List.take_succ_eq_append_getElem h,List.set_append_right _ _ yw]
 simp[Nat.min_eq_left (Nat.le_of_lt h)]
structure OnlyB(b:Nat)(w w':World):Prop where
 os:w'.os=w.os
 tape:w'.tape=w.tape
 output:w'.output=w.output
 size:w'.heap.size=w.heap.size
 far:∀k,k≠b→w'.heap[k]? = w.heap[k]?
theorem OnlyB.refl(b:Nat)(w:World):OnlyB b w w:=⟨rfl,rfl,rfl,rfl,fun _ _=>rfl⟩
theorem OnlyB.trans{b:Nat}{w w' w'':World}(h:OnlyB b w w')(k:OnlyB b w' w''):OnlyB b w w'':=⟨k.os.trans h.os,k.tape.trans h.tape,k.output.trans h.output,k.size.trans h.size,fun i hi=>(k.far i hi).trans (h.far i hi)⟩
theorem onlyB_setCell(w:World)(b i:Nat)(v:Value):OnlyB b w (w.setCell ⟨b,i,none⟩ v):=⟨rfl,rfl,rfl,by simp[World.setCell],fun k hk=>Below.heap_setCell _ _ _ _ hk⟩
theorem run_storeCells{b:Nat}{ty:TypeId}{base:Nat}:∀(vs:List Value) (i:Nat) (w:World) (cs:List Value),w.heap[b]? = some (.cells cs.toArray ty (0,0))→base+i+vs.length≤cs.length→(∀v∈vs,v.oneCell'=true) →
  ∃w',(storeCells ⟨b,base,none⟩ vs i).run P w=.ok () w'∧w'.heap[b]? = some (.cells (setL cs (base+i) vs).toArray ty (0,0))∧OnlyB b w w'
 | [],i,w,cs,h,hl,hv=>⟨w,rfl,by rw[setL_nil];exact h,OnlyB.refl _ _⟩
 | v::vs,i,w,cs,h,hl,hv=>by
  simp only[List.length_cons] at hl
  have hlt:base+i<cs.length:=by omega
  have h1:(w.setCell ⟨b,base+i,none⟩ v).heap[b]? = some (.cells (cs.set (base+i) v).toArray ty (0,0)):=by
   simp[World.setCell,Array.getElem?_modify,h]
  obtain⟨w',k1,k2,k3⟩:=run_storeCells (b:=b) (ty:=ty) (base:=base) vs (i+1) _ _ h1 yw (fun v hv'=>hv v (List.mem_cons_of_mem _ hv'));refine⟨w',?_,?_,(onlyB_setCell w b _ v).trans k3⟩
  ·have hc:w.cell? ⟨b,base+i,none⟩=some cs[base+i]:=by simp[World.cell?,h,hlt]
   have hf:w.frozen? ⟨b,base+i,none⟩=false:=by simp[World.frozen?,h]
   have e:(store (⟨b,base+i,none⟩:Addr) v).run P w=.ok () (w.setCell ⟨b,base+i,none⟩ v):=by
    rw[run_store P w _ v _ (hv v (List.mem_cons_self ..)),hc,hf];rfl
   have e2:(storeCells ⟨b,base,none⟩ (v::vs) i).run P w=(do store ((⟨b,base,none⟩:Addr).add i) v;storeCells ⟨b,base,none⟩ vs (i+1):Sem Unit).run P w:=rfl;rw[e2,addr_add,run_bind_ok e];exact k1
  rw[←setL_cons hlt,Nat.add_assoc];exact k2
theorem Rep.store{s:Tmp}{V V':Vr}{w':World}(h:Rep w0 u0 S B a w u)(hs:S.var s=some V)(h1:w'.heap[B s]? = some (.cells V'.cs.toArray V'.ty (0,0)))(h2:OnlyB (B s) w w'):Rep w0 u0 (S.setVar s V') B a w' u:=by
 have hg:=(h.var s V hs).2;refine⟨⟨h.regs.reg,h.regs.size⟩,⟨fun r x t hx ht=>?_⟩,h.defers,fun t V1 hV1=>?_,fun t t' V1 V2 e1 e2 e=>?_,⟨by rw[h2.size];exact h.dat.size,fun b o hb hh=>?_⟩,h.base,h.grow,?_⟩
 ·obtain⟨V1,hV1⟩:=h.wf.reg r x t hx ht
  by_cases e:t=s
  ·subst e;exact⟨V',zxb _ _ _⟩
  exact⟨V1,by show upd S.var s (some V') t=_;rw[upd_ne _ _ e];exact hV1⟩
 ·by_cases e:t=s
  ·subst e
   simp only[St.setVar,zxb] at hV1
   injection hV1 with hV1
   subst hV1;exact⟨h1,hg⟩
  simp only[St.setVar,upd_ne _ _ e] at hV1
  obtain⟨g1,g2,g3⟩:=h.var t V1 hV1;exact⟨by rw[h2.far _ (fun k=>e (h.inj t s V1 V hV1 hs k))];exact g1,g2,g3⟩
 ·have key:∀t V1,(S.setVar s V').var t=some V1→∃V2,S.var t=some V2:=fun t V1 hV=>by
   by_cases e:t=s
   ·exact⟨V,by rw[e];exact hs⟩
   simp only[St.setVar,upd_ne _ _ e] at hV;exact⟨V1,hV⟩
  obtain⟨X,hX⟩:=key t V1 e1;obtain⟨Y,hY⟩:=key t' V2 e2;exact h.inj t t' X Y hX hY e
 ·by_cases e:b=B s
  ·subst e;rw[hg.1] at hb;injection hb with hb;exact absurd hb.symm hh
  rw[h2.far b e];exact h.dat.vis b o hb hh
 have hb:=h.bel;refine⟨h2.os.trans hb.os,h2.tape.trans hb.tape,h2.output.trans hb.output,by rw[h2.size];exact hb.size,fun k hk hl hf=>(h2.far k ?_).trans (hb.block k hk hl hf)⟩;rintro rfl
 rcases Nat.lt_or_ge s S.n with hs3|hs3
 ·have h3:=hg.2.1 hs3;rw[h.base] at h3
  omega
 exact hl _ (hg.2.2 hs3)
theorem DoesStore.sound{nl:List Tmp}{s:Tmp}{V':Vr}(h:DoesStore P ops o S nl s V')(hr:Rep w0 u0 S B a w u):
  Region.wanted o (yielded ops a.tmps)=true∧∃w',(execOp a.eval o).run P w=.ok .skip w'∧Rep w0 u0 (S.setVar s V') B (a.put o.dst undef) w' u:=by
 obtain⟨T,r,z,off,V,v,agg,n,hop,hd,hreg,hv,hz,hT,hn,hone,hl,hV,hw,_⟩:=h;obtain⟨g1,g2,g3⟩:=hr.var s V hv;obtain⟨w',k1,k2,k3⟩:=run_storeCells (P:=P) (b:=B s) (ty:=V.ty) (base:=off) v.cells.toList 0 w V.cs g1 yw (List.all_eq_true.1 hone);have hev:a.eval (.tmp r)=.pointer (some ⟨B s,off,none⟩):=hr.regs.eval hreg;have hez:a.eval z=v:=hz B a hr.regs;refine⟨hw B a hr.regs,w',?_,?_⟩
 ·have e1:(execOp a.eval o).run P w=(do Instr.storeAt T (a.eval (.tmp r)) (a.eval z);pure Next.skip:Sem Next).run P w:=by
   unfold execOp;rw[hop]
  have e2:(Instr.storeAt T (.pointer (some ⟨B s,off,none⟩)) v).run P w=.ok () w':=by
   have e3:(Instr.storeAt T (.pointer (some ⟨B s,off,none⟩)) v).run P w=(storeVar T ⟨B s,off,none⟩ v).run P w:=rfl;rw[e3]
   unfold storeVar
   rw[run_bind_ok (hT w).2,if_neg (by simp[hn])];exact k1
  rw[e1,hev,hez,run_bind_ok e2]
  rfl
 rw[hd];exact hr.store (V':=V') hv (by rw[hV];simpa using k2) k3
end
section
variable {P:Program} {ops:Array Oper} {w0:Base} {u0:World} {S:St} {B:Tmp→Nat} {a:Act} {w u u':World} {o:Oper}
def pubW(u w:World)(bs:List Nat):World:={ u with heap:=u.heap.mapIdx fun b ob=>if b∈bs then(w.heap[b]?).getD ob else ob }
theorem pubW_size(u w:World)(bs:List Nat):(pubW u w bs).heap.size=u.heap.size:=by simp[pubW]
theorem pubW_out{bs:List Nat}{b:Nat}(h:b∉bs):(pubW u w bs).heap[b]? = u.heap[b]? := by
 simp only[pubW,Array.getElem?_mapIdx,h,if_false]
 cases u.heap[b]? <;> rfl
theorem pubW_in{bs:List Nat}{b:Nat}(h:b∈bs)(hb:b<u.heap.size)(hs:u.heap.size=w.heap.size):(pubW u w bs).heap[b]? = w.heap[b]? := by
 have hw:b<w.heap.size:=by omega
 simp only[pubW,Array.getElem?_mapIdx,h,if_true]
 rw[Array.getElem?_eq_getElem hb,Array.getElem?_eq_getElem hw]
 rfl
theorem pubW_dat{bs:List Nat}(h:Dat u w):Dat (pubW u w bs) w:=by
 refine⟨by rw[pubW_size];exact h.size,fun b ob hb hh=>?_⟩
 by_cases e:b∈bs
 ·have hlt:=zyz hb;rw[pubW_size] at hlt;rw[pubW_in e hlt h.size] at hb;exact hb
 rw[pubW_out e] at hb;exact h.vis b ob hb hh
theorem pubW_ext{bs:List Nat}(h:Dat u w):Ext u (pubW u w bs):=by
 refine⟨Nat.le_of_eq (pubW_size _ _ _).symm,fun b ob hb hh=>?_⟩
 by_cases e:b∈bs
 ·rw[pubW_in e (zyz hb) h.size];exact h.vis b ob hb hh
 rw[pubW_out e];exact hb
theorem pubW_grow{bs F:List Nat}(h:GrowF F u0 u)(hb:∀b∈bs,u0.heap.size≤b):GrowF F u0 (pubW u w bs):=by
 refine⟨by rw[pubW_size];exact h.size,fun b hlt hf=>?_⟩;rw[pubW_out (fun e=>by have:=hb b e;omega)];exact h.old b hlt hf
theorem wp_noQ{K:Act→World→Prop}{Q:Exit→Act→World→Prop}(h:o.wp P a w K (fun _ _ _=>False)):o.wp P a w K Q:=by
 unfold Oper.wp at *
 generalize (execOp a.eval o).run P w=r at *
 cases r with
 | ok n w'=>
  cases n<;>simp only[Oper.upon] at h ⊢ <;> first|exact h|skip
  refine Calls.mono h fun e w'' he=>?_
  cases e with
  | returned v=>exact he
  | panicked c=>exact he.elim
  | outgrown=>obtain⟨_,_,h⟩:=he;exact h.elim
 | halt x w'=>cases x<;>simp only[Oper.upon] at h ⊢
theorem Rep.called{pubs:List Tmp}{u2 w2:World}(h:Rep w0 u0 S B a w u)(hp:PubOK S pubs)(hd:Dat u2 w2)(hb:Below w.heap.size w w2)(hg:Grow (pubW u w ((S.pv pubs).map B)) u2){d:Option Tmp}(hfd:∀t,d=some t→t<S.n)(v:Value):
  Rep w0 u0 ((S.unpub pubs).put d (some (.v v))) B (a.put d v) w2 u2:=by
 have hreg:∀r x,(S.unpub pubs).reg r=some x→S.reg r=some x∧r∉pubs:=fun r x hx=>by
  simp only[St.unpub] at hx
  cases e:pubs.contains r with
  | true=>rw[e] at hx;cases hx
  | false=>rw[e] at hx;exact⟨hx,fun hm=>by rw[List.contains_iff_mem.2 hm] at e;cases e⟩
 have hvar:∀t V,(S.unpub pubs).var t=some V→S.var t=some V∧t∉pubs:=fun t V hx=>by
  simp only[St.unpub] at hx
  cases e:pubs.contains t with
  | true=>rw[e] at hx;cases hx
  | false=>rw[e] at hx;exact⟨hx,fun hm=>by rw[List.contains_iff_mem.2 hm] at e;cases e⟩
 have hvar':∀t V,S.var t=some V→t∉pubs→(S.unpub pubs).var t=some V:=fun t V hx hn=>by
  simp only[St.unpub]
  have:pubs.contains t=false:=by
   cases e:pubs.contains t with
   | true=>exact absurd (List.contains_iff_mem.1 e) hn
   | false=>rfl
  rw[this];exact hx
 have hwf:(S.unpub pubs).Wf:=by
  refine⟨fun r x t hr ht=>?_⟩;obtain⟨h1,h2⟩:=hreg r x hr;obtain⟨V,hV⟩:=h.wf.reg r x t h1 ht;exact⟨V,hvar' t V hV fun hm=>h2 (hp.reg r x t h1 ht hm)⟩
 refine⟨regOK_put ⟨fun t x hx=>h.regs.reg t x (hreg t x hx).1,h.regs.size⟩ hfd (fun z e=>by injection e with e;rw[←e];rfl),wf_put hwf (fun z t e ht=>by injection e with e;rw[←e] at ht;cases ht),by rw[put_defers];exact h.defers,?_,?_,hd,h.base,?_,h.bel.trans (hb.mono h.bel.size)⟩
 ·rw[put_var,put_n];intro t V hV;obtain⟨h1,h2⟩:=hvar t V hV;obtain⟨g1,g2,g3⟩:=h.var t V h1;have hlt:=h.lt h1;refine⟨by rw[hb.block _ hlt];exact g1,?_,g3⟩;rw[hg.old _ (by rw[pubW_size,h.dat.size];exact hlt),pubW_out]
  ·exact g2
  intro hm;obtain⟨s,hs,e⟩:=List.mem_map.1 hm;obtain⟨hs,hk⟩:=List.mem_filter.1 hs;obtain⟨Vs,hVs⟩:=Option.isSome_iff_exists.1 hk;exact h2 (h.inj s t Vs V hVs h1 e ▸ hs)
 ·rw[put_var];intro t t' V V' h1 h2 e;exact h.inj t t' V V' (hvar t V h1).1 (hvar t' V' h2).1 e
 refine GrowF.trans (pubW_grow h.grow fun b hb=>?_) hg;obtain⟨s,hs,rfl⟩:=List.mem_map.1 hb;obtain⟨hs,hk⟩:=List.mem_filter.1 hs;obtain⟨Vs,hVs⟩:=Option.isSome_iff_exists.1 hk;exact(h.var s Vs hVs).2.2.1 (hp.lt s hs)
theorem From.wf{x:SV}(h:From ops o S x)(hS:S.Wf):∀t,x.at? = some t→∃V,S.var t=some V:=fun t ht=>by
 obtain⟨r,_,z,hz,hzt⟩:=h t ht;exact hS.reg r z t hz hzt
theorem part_wf{cs:List Value}{off n:Nat}{agg:Bool}{x:SV}(h:PartIs cs off agg n x):x.at? = none:=by
 cases agg with
 | true=>obtain⟨_,rfl⟩:=h;rfl
 | false=>obtain⟨_,_,rfl⟩:=h;rfl
theorem dat_vis(h:Dat u w)(ob:Obj):Dat (u.alloc ob) (w.alloc ob):=by
 refine⟨by rw[alloc_size,alloc_size,h.size],fun b o hb hh=>?_⟩
 rcases Nat.lt_or_ge b u.heap.size with hlt|hge
 ·rw[zxp _ _ hlt] at hb;rw[zxp _ _ (by rw[←h.size];exact hlt)];exact h.vis b o hb hh
 have:b=u.heap.size:=by have:=zyz hb;rw[alloc_size] at this;omega
 subst this;rw[zxq] at hb;rw[h.size,zxq];exact hb
theorem Rep.vis(h:Rep w0 u0 S B a w u)(ob:Obj):Rep w0 u0 S B a (w.alloc ob) (u.alloc ob):=
 ⟨h.regs,h.wf,h.defers,fun t V hV=>by
  obtain⟨h1,h2,h3⟩:=h.var t V hV;exact⟨by rw[zxp _ _ (h.lt hV)];exact h1,by rw[zxp _ _ (zyz h2)];exact h2,h3⟩,h.inj,dat_vis h.dat ob,h.base,h.grow.trans (zxt _ _),h.bel.alloc _⟩
theorem one_sound{seq:Bool}{e:Oper×List Tmp}{k:St→World→Prop}{Q:Exit→Act→World→Prop}(hk:Mono k)(h:one P ops w0 u0 seq e S u k)(he:Ext u u')(hr:Rep w0 u0 S B a w u'):
  if Region.wanted e.1 (yielded ops a.tmps) then e.1.wp P a w (fun a' w'=>∃S' B' u'',Rep w0 u0 S' B' a' w' u''∧(seq=false→Ext u' u'')∧k S' u'') Q
  else ∃S' B' u'',Rep w0 u0 S' B' (a.put e.1.dst undef) w u''∧(seq=false→Ext u' u'')∧k S' u'':=by
 rcases h with ⟨h0,up,h1,h2⟩|⟨h0,f,args,pubs,hp,h1,h2,h3⟩|⟨h0,h1⟩|⟨s,V',h1,h2⟩|⟨hs,hp2,hk2,V,n,h1,h2⟩
 ·cases up with
  | drop=>
   obtain⟨hf,hw⟩:=h1;have hw:=hw B a hr.regs
   unfold Want at hw
   rw[hw,if_neg (by simp)];exact⟨_,B,u',hr.set (x:=some (.v undef)) (fun t e=>(hf t e).1) (fun z e=>by injection e with e;rw[←e];rfl) (fun z t e ht=>by injection e with e;rw[←e] at ht;cases ht),fun _=>Ext.refl _,hk _ _ _ he h2⟩
  | set x=>
   obtain⟨hf,hx⟩:=h1
   have key:Region.wanted e.1 (yielded ops a.tmps)=true∧(execOp a.eval e.1).run P w=.ok (.value (x.conc B)) w∧∀t,x.at? = some t→∃V,S.var t=some V:=by
    rcases hx with ⟨hx1,hx2⟩|⟨T,r,s,off,V,agg,n,g1,g2,g3,g4,g5,g6⟩
    ·obtain⟨e1,e2⟩:=hx2 B a w u' hr.regs he hr.dat;exact⟨e1,e2,hx1.wf hr.wf⟩
    refine⟨g6 B a hr.regs,?_,fun t ht=>?_⟩
    ·have hv:=(hr.var s V g3).1;obtain⟨r1,r2⟩:=run_load_var (P:=P) (off:=off) g4 hv;have hev:=hr.regs.eval g2
     have hex:(execOp a.eval e.1).run P w=(do pure (Next.value (←Instr.loadAt T (.pointer (some ⟨B s,off,none⟩)))):Sem Next).run P w:=by
      unfold execOp
      rw[g1];show(do pure (Next.value (←Instr.loadAt T (a.eval (.tmp r)))):Sem Next).run P w=_;rw[hev]
      rfl
     rw[hex]
     cases agg with
     | true=>
      obtain⟨l2,rfl⟩:=g5;exact run_val (r1 rfl l2)
     | false=>
      obtain⟨v,l1,rfl⟩:=g5;exact run_val (r2 rfl _ l1)
    rw[part_wf g5] at ht;cases ht
   obtain⟨k1,k2,k3⟩:=key;rw[k1,if_pos rfl]
   unfold Oper.wp
   rw[k2];exact⟨_,B,u',hr.set (fun t e=>(hf t e).1) (fun z e=>by injection e with e;rw[e]) (fun z t e=>by injection e with e;rw[←e];exact k3 t),fun _=>Ext.refl _,hk _ _ _ he h2⟩
  | new V=>
   obtain⟨hf,t,g1,g2,g4⟩:=h1;obtain⟨e1,e2⟩:=g4 B a w hr.regs
   unfold Want at e1
   rw[e1,if_pos rfl]
   unfold Oper.wp
   rw[e2];refine⟨_,setB B t w.heap.size,u'.alloc hidO,?_,fun _=>(zxt _ _).ext,hk _ _ _ (he.trans (zxt _ _).ext) h2⟩;have:=hr.new (V:=V) (y:=.adr t 0) (hf t g1).1 g2 (hf t g1).2 rfl;rw[g1]
   simpa[SV.conc,setB,St.app] using this
  | lit V n=>
   obtain⟨hf,t,g1,g2,g4⟩:=h1;obtain⟨e1,e2⟩:=g4 B a w hr.regs
   unfold Want at e1
   rw[e1,if_pos rfl]
   unfold Oper.wp
   rw[e2];refine⟨_,setB B t w.heap.size,u'.alloc hidO,?_,fun _=>(zxt _ _).ext,hk _ _ _ (he.trans (zxt _ _).ext) h2⟩;have:=hr.new (V:=V) (y:=.slc t 0 n n) (hf t g1).1 g2 (hf t g1).2 rfl;rw[g1]
   simpa[SV.conc,setB,St.app] using this
 ·obtain⟨hf,_,h1⟩:=h1;obtain⟨e1,e2⟩:=h1 B a w hr.regs
  unfold Want at e1
  rw[e1,if_pos rfl]
  unfold Oper.wp
  rw[e2]
  have hvis:Visible S B (pubW u' w ((S.pv pubs).map B)) pubs:=fun t ht V hV=>by
   obtain⟨v1,v2,_⟩:=hr.var t V hV;rw[pubW_in (List.mem_map_of_mem (show t∈S.pv pubs from List.mem_filter.2 ⟨ht,by rw[hV];rfl⟩)) (zyz v2) hr.dat.size];exact v1
  refine(h3 B w (pubW u' w ((S.pv pubs).map B)) (he.trans (pubW_ext hr.dat)) (pubW_dat hr.dat) hvis).mono fun en w2 ⟨v,u2,q1,q2,q3,q4,q5⟩=>?_;subst q1;exact⟨_,B,u2,hr.called h2 q2 q3 q4 (fun t e=>(hf t e).1) v,fun _=>(pubW_ext hr.dat).trans q4.ext,q5⟩
 ·obtain⟨e1,e2⟩:=h1 B a w u' he hr
  unfold Want at e1
  rw[e1,if_pos rfl];exact wp_noQ (Oper.wp_mono (fun a' w' ⟨S',B',u3,u2,a1,a2,a3,a4,a5⟩=>⟨S',B',u3,a1,a2,hk _ _ _ a4 a5⟩) e2)
 ·obtain⟨e1,w',e2,e3⟩:=h1.sound hr;rw[e1,if_pos rfl]
  unfold Oper.wp
  rw[e2];exact⟨_,B,u',e3,fun _=>Ext.refl _,hk _ _ _ he h2⟩
 obtain⟨hf,t,g1,g2,g4⟩:=h1;obtain⟨e1,e2⟩:=g4 B a w hr.regs
 unfold Want at e1
 rw[e1,if_pos rfl]
 unfold Oper.wp
 rw[e2];have hsz:u'.heap.size=w.heap.size:=hr.dat.size;refine⟨_,B,u'.alloc (.cells V.cs.toArray V.ty),?_,fun _=>(zxt _ _).ext,h2 w.heap.size _ (he.trans (zxt _ _).ext) (by rw[←hsz];exact zxq _ _) (by rw[←hsz];exact hr.grow.size) (by rw[←hsz];exact he.size)⟩;exact(hr.vis _).set (d:=e.1.dst) (x:=some (.v (.slice (some ⟨w.heap.size,0,none⟩) n n))) (fun t e=>(hf t e).1) (fun z e=>by injection e with e;rw[←e];rfl) (fun z t e ht=>by injection e with e;rw[←e] at ht;cases ht)
end
section
variable {P:Program} {ops:Array Oper} {w0:Base} {u0:World} {S:St} {B:Tmp→Nat} {a:Act} {w u u':World} {o x y:Oper}
def Agree(ts:List Tmp)(a b:Act):Prop:=∀t∈ts,a.tmps[t]? = b.tmps[t]?
theorem eval_agree{b:Act}(h:Agree (o.looksAt ops) a b):∀z∈o.op.operands,a.eval z=b.eval z:=by
 intro z hz
 cases z with
 | tmp t=>
  have:=h t (List.mem_append_left _ (List.mem_filterMap.2 ⟨.tmp t,by simpa using hz,rfl⟩))
  simp[Act.eval,this]
 | _=>rfl
theorem exec_agree{b:Act}(hs:∀cs q,o.op≠.select cs q)(h:Agree (o.looksAt ops) a b):execOp a.eval o=execOp b.eval o:=execOp_congr o hs (eval_agree h)
theorem zxz{b:Act}(h:Agree (o.looksAt ops) a b)(v:Bool):Want ops o a v↔Want ops o b v:=by
 unfold Want Region.wanted
 cases hg:o.guard with
 | none=>exact Iff.rfl
 | some gw=>
  obtain⟨g,want⟩:=gw
  have hy:yielded ops a.tmps g=yielded ops b.tmps g:=by
   unfold yielded
   cases ht:(ops[g]?).bind (·.dst) with
   | none=>rfl
   | some t=>
    have:=h t (List.mem_append_right _ (by simp[hg,ht]))
    simp[this]
  simp only[hy]
theorem agree_put{ts:List Tmp}{d:Option Tmp}{v:Value}(h:∀t,d=some t→t∉ts):Agree ts (a.put d v) a:=fun t ht=>Act.put_get_ne _ _ (fun e=>h t e ht)
theorem zwa{d:Option Tmp}{up:Up}{r:Tmp}(h:d≠some r):(S.app d up).reg r=S.reg r:=by
 cases d with
 | none=>cases up<;>rfl
 | some t=>
  have h':r≠t:=fun e=>h (by rw[e])
  cases up<;>simp only[St.app,St.put]<;>exact upd_ne _ _ h'
theorem app_var_ne{d:Option Tmp}{up:Up}{r:Tmp}(h:d≠some r):(S.app d up).var r=S.var r:=by
 cases d with
 | none=>cases up<;>rfl
 | some t=>
  have h':r≠t:=fun e=>h (by rw[e])
  cases up<;>simp only[St.app,St.put]<;>first|exact upd_ne _ _ h'|rfl
theorem app_n(d:Option Tmp)(up:Up):(S.app d up).n=S.n:=by cases d<;>cases up<;>rfl
theorem up_var{up:Up}(h:DoesUp P ops x S u up){s:Tmp}{V:Vr}(hs:S.var s=some V):(S.app x.dst up).var s=some V:=by
 by_cases e:x.dst=some s
 ·cases up with
  | set z=>rw[St.app,put_var];exact hs
  | drop=>rw[St.app,put_var];exact hs
  | new V'=>obtain⟨_,t,g1,g2,_⟩:=h;rw[e] at g1;injection g1 with g1;subst g1;rw[hs] at g2;cases g2
  | lit V' n=>obtain⟨_,t,g1,g2,_⟩:=h;rw[e] at g1;injection g1 with g1;subst g1;rw[hs] at g2;cases g2
 rw[app_var_ne e];exact hs
theorem up_free{up:Up}(h:DoesUp P ops x S u up):Free x S:=by cases up<;>exact h.1
theorem wf_app{up:Up}(hS:S.Wf)(h:DoesUp P ops x S u up):(S.app x.dst up).Wf:=by
 cases up with
 | drop=>exact wf_put hS (fun z t e ht=>by injection e with e;rw[←e] at ht;cases ht)
 | set z=>
  refine wf_put hS fun z' t e ht=>?_
  injection e with e
  subst e
  rcases h.2 with ⟨h1,_⟩|⟨T,r,s,off,V,agg,n,g1,g2,g3,g4,g5,g6⟩
  ·exact h1.wf hS t ht
  rw[part_wf g5] at ht;cases ht
 | new V=>
  have hup:=h;obtain⟨hf,t,g1,g2,g4⟩:=h;refine⟨fun r z s hr hs=>?_⟩
  by_cases e:s=t
  ·subst e;rw[g1];exact⟨V,zxb _ _ _⟩
  by_cases e2:x.dst=some r
  ·rw[g1] at e2 hr;injection e2 with e2;subst e2
   simp only[St.app,zxb] at hr;injection hr with hr;subst hr
   injection hs with hs;exact absurd hs.symm e
  rw[zwa e2] at hr;obtain⟨V',hV'⟩:=hS.reg r z s hr hs;exact⟨V',up_var hup hV'⟩
 | lit V n=>
  have hup:=h;obtain⟨hf,t,g1,g2,g4⟩:=h;refine⟨fun r z s hr hs=>?_⟩
  by_cases e:s=t
  ·subst e;rw[g1];exact⟨V,zxb _ _ _⟩
  by_cases e2:x.dst=some r
  ·rw[g1] at e2 hr;injection e2 with e2;subst e2
   simp only[St.app,zxb] at hr;injection hr with hr;subst hr
   injection hs with hs;exact absurd hs.symm e
  rw[zwa e2] at hr;obtain⟨V',hV'⟩:=hS.reg r z s hr hs;exact⟨V',up_var hup hV'⟩
theorem reg_fore{up:Up}(hS:S.Wf)(h:DoesUp P ops x S u up)(hr:RegOK S B a):
  ∃B1 v,RegOK (S.app x.dst up) B1 (a.put x.dst v)∧∀t V,S.var t=some V→B1 t=B t:=by
 have hf:=up_free h
 cases up with
 | drop=>exact⟨B,undef,regOK_put (x:=some (.v undef)) hr (fun t e=>(hf t e).1) (fun z e=>by injection e with e;rw[←e];rfl),fun _ _ _=>rfl⟩
 | set z=>exact⟨B,z.conc B,regOK_put hr (fun t e=>(hf t e).1) (fun z' e=>by injection e with e;rw[e]),fun _ _ _=>rfl⟩
 | new V=>
  obtain⟨_,t,g1,g2,g4⟩:=h;refine⟨setB B t 0,(SV.adr t 0).conc (setB B t 0),?_,fun s V' hs=>?_⟩
  ·rw[g1];refine⟨fun r z hz=>?_,by rw[Act.put_size];exact hr.size⟩
   by_cases e:r=t
   ·subst e
    simp only[St.app,zxb] at hz;injection hz with hz;subst hz
    exact Act.put_get_same _ _ (by rw[hr.size];exact(hf r g1).1)
   simp only[St.app,upd_ne _ _ e] at hz
   rw[Act.put_get_ne _ _ (fun k=>e (by injection k with k;exact k.symm)),conc_setB (fun k=>by obtain⟨V',e'⟩:=hS.reg r z t hz k;rw[g2] at e';cases e')];exact hr.reg r z hz
  rw[setB,if_neg];rintro rfl;rw[g2] at hs;cases hs
 | lit V n=>
  obtain⟨_,t,g1,g2,g4⟩:=h;refine⟨setB B t 0,(SV.slc t 0 n n).conc (setB B t 0),?_,fun s V' hs=>?_⟩
  ·rw[g1];refine⟨fun r z hz=>?_,by rw[Act.put_size];exact hr.size⟩
   by_cases e:r=t
   ·subst e
    simp only[St.app,zxb] at hz;injection hz with hz;subst hz
    exact Act.put_get_same _ _ (by rw[hr.size];exact(hf r g1).1)
   simp only[St.app,upd_ne _ _ e] at hz
   rw[Act.put_get_ne _ _ (fun k=>e (by injection k with k;exact k.symm)),conc_setB (fun k=>by obtain⟨V',e'⟩:=hS.reg r z t hz k;rw[g2] at e';cases e')];exact hr.reg r z hz
  rw[setB,if_neg];rintro rfl;rw[g2] at hs;cases hs
theorem from_back{up:Up}{z:SV}(h:DoesUp P ops x S u up)(hxy:∀d,x.dst=some d→d∉y.looksAt ops)(hz:From ops y (S.app x.dst up) z):From ops y S z:=fun t ht=>by
 obtain⟨r,hr,z',h1,h2⟩:=hz t ht;exact⟨r,hr,z',by rw[←zwa (fun e=>hxy r e hr)];exact h1,h2⟩
theorem free_back{up:Up}(hne:∀d,x.dst=some d→y.dst≠some d)(hz:Free y (S.app x.dst up)):Free y S:=fun d hd=>by
 obtain⟨h1,h2⟩:=hz d hd;rw[app_n] at h1;rw[zwa (fun e=>hne d e hd)] at h2;exact⟨h1,h2⟩
theorem load_looks{T:TypeId}{r:Tmp}(h:y.op=.load T (.tmp r)):r∈y.looksAt ops:=by
 refine List.mem_append_left _ (List.mem_filterMap.2 ⟨.tmp r,?_,rfl⟩);rw[h];simp[Op.operands]
theorem up_back{up up':Up}(hS:S.Wf)(h:DoesUp P ops x S u up)(hxy:∀d,x.dst=some d→d∉y.looksAt ops)(hne:∀d,x.dst=some d→y.dst≠some d)(hsel:∀cs q,y.op≠.select cs q)
  (hy:DoesUp P ops y (S.app x.dst up) u up'):DoesUp P ops y S u up':=by
 have hag:∀(a:Act) v,Agree (y.looksAt ops) (a.put x.dst v) a:=fun a v=>agree_put hxy;have hf:=free_back hne (up_free hy)
 cases up' with
 | drop=>
  refine⟨hf,fun B a hr=>?_⟩;obtain⟨B1,v,h1,_⟩:=reg_fore hS h hr;exact(zxz (hag a v) _).1 (hy.2 B1 _ h1)
 | set z=>
  refine⟨hf,?_⟩
  rcases hy.2 with ⟨h1,h2⟩|⟨T,r,s,off,V,agg,n,g1,g2,g3,g4,g5,g6⟩
  ·have h1':=from_back h hxy h1;refine .inl ⟨h1',fun B a w u' hr he hd=>?_⟩;obtain⟨B1,v,k1,k2⟩:=reg_fore hS h hr;obtain⟨e1,e2⟩:=h2 B1 _ w u' k1 he hd;rw[exec_agree hsel (hag a v)] at e2;rw[SV.conc_congr (B':=B) (fun t ht=>by obtain⟨V,hV⟩:=h1'.wf hS t ht;exact k2 t V hV)] at e2;exact⟨(zxz (hag a v) _).1 e1,e2⟩
  have hr0:=load_looks (ops:=ops) g1;rw[zwa (fun e=>hxy r e hr0)] at g2;obtain⟨V0,hV0⟩:=hS.reg r _ s g2 rfl;have:=up_var h hV0;rw[g3] at this;injection this with this;subst this
  refine .inr ⟨T,r,s,off,V,agg,n,g1,g2,hV0,g4,g5,fun B a hr=>?_⟩;obtain⟨B1,v,k1,_⟩:=reg_fore hS h hr;exact(zxz (hag a v) _).1 (g6 B1 _ k1)
 | new V=>
  obtain⟨_,t,g1,g2,g4⟩:=hy;refine⟨hf,t,g1,by rw[←app_var_ne (fun e=>hne t e g1)];exact g2,fun B a w hr=>?_⟩;obtain⟨B1,v,k1,k2⟩:=reg_fore hS h hr;obtain⟨e1,e2⟩:=g4 B1 _ w k1;rw[exec_agree hsel (hag a v)] at e2;exact⟨(zxz (hag a v) _).1 e1,e2⟩
 | lit V n=>
  obtain⟨_,t,g1,g2,g4⟩:=hy;refine⟨hf,t,g1,by rw[←app_var_ne (fun e=>hne t e g1)];exact g2,fun B a w hr=>?_⟩;obtain⟨B1,v,k1,k2⟩:=reg_fore hS h hr;obtain⟨e1,e2⟩:=g4 B1 _ w k1;rw[exec_agree hsel (hag a v)] at e2;exact⟨(zxz (hag a v) _).1 e1,e2⟩
end
section
variable {P:Program} {ops:Array Oper} {w0:Base} {u0:World} {S:St} {B:Tmp→Nat} {a:Act} {w u u':World} {o x y:Oper}
theorem up_carry{T:St}{up:Up}(h:DoesUp P ops x S u up)(hsel:∀cs q,x.op≠.select cs q)
  (hreg:∀r∈x.looksAt ops,T.reg r=S.reg r) (hfree:Free x T) (hnew:∀t,x.dst=some t→S.var t=none→T.var t=none) (hvar:∀t r,x.op=.load t (.tmp r)→∀z s V,S.reg r=some z→z.at? = some s→S.var s=some V→T.var s=some V)
  (hback:∀B a,RegOK T B a→∃a',RegOK S B a'∧Agree (x.looksAt ops) a' a):DoesUp P ops x T u up:=by
 have hfrom:∀z,From ops x S z→From ops x T z:=fun z hz t ht=>by
  obtain⟨r,hr,z',h1,h2⟩:=hz t ht;exact⟨r,hr,z',by rw[hreg r hr];exact h1,h2⟩
 cases up with
 | drop=>
  refine⟨hfree,fun B a hr=>?_⟩;obtain⟨a',h1,h2⟩:=hback B a hr;exact(zxz h2 _).1 (h.2 B a' h1)
 | set z=>
  refine⟨hfree,?_⟩
  rcases h.2 with ⟨h1,h2⟩|⟨T',r,s,off,V,agg,n,g1,g2,g3,g4,g5,g6⟩
  ·refine .inl ⟨hfrom z h1,fun B a w u' hr he hd=>?_⟩;obtain⟨a',k1,k2⟩:=hback B a hr;obtain⟨e1,e2⟩:=h2 B a' w u' k1 he hd;rw[exec_agree hsel k2] at e2;exact⟨(zxz k2 _).1 e1,e2⟩
  have hl:=load_looks (ops:=ops) g1;refine .inr ⟨T',r,s,off,V,agg,n,g1,by rw[hreg r hl];exact g2,hvar _ r g1 _ s V g2 rfl g3,g4,g5,fun B a hr=>?_⟩;obtain⟨a',k1,k2⟩:=hback B a hr;exact(zxz k2 _).1 (g6 B a' k1)
 | new V=>
  obtain⟨_,t,g1,g2,g4⟩:=h;refine⟨hfree,t,g1,hnew t g1 g2,fun B a w hr=>?_⟩;obtain⟨a',k1,k2⟩:=hback B a hr;obtain⟨e1,e2⟩:=g4 B a' w k1;rw[exec_agree hsel k2] at e2;exact⟨(zxz k2 _).1 e1,e2⟩
 | lit V n=>
  obtain⟨_,t,g1,g2,g4⟩:=h;refine⟨hfree,t,g1,hnew t g1 g2,fun B a w hr=>?_⟩;obtain⟨a',k1,k2⟩:=hback B a hr;obtain⟨e1,e2⟩:=g4 B a' w k1;rw[exec_agree hsel k2] at e2;exact⟨(zxz k2 _).1 e1,e2⟩
theorem reg_mend{T:St}(ts:List Tmp)(hn:T.n=S.n)(h:∀t z,t∉ts→S.reg t=some z→T.reg t=some z)(hts:∀t∈ts,∀z,S.reg t=some z→t<S.n)(hr:RegOK T B a):
  ∃a',RegOK S B a'∧∀t,t∉ts→a'.tmps[t]? = a.tmps[t]? := by
 refine⟨{ a with tmps:=a.tmps.mapIdx fun t v=>if t∈ts then(match S.reg t with|some z=>z.conc B|none=>v) else v },⟨fun t z hz=>?_,by simp;rw[hr.size,hn]⟩,fun t ht=>?_⟩
 ·simp only[Array.getElem?_mapIdx]
  by_cases e:t∈ts
  ·have hlt:t<a.tmps.size:=by rw[hr.size,hn];exact hts t e z hz
   rw[Array.getElem?_eq_getElem hlt]
   simp[e,hz]
  rw[hr.reg t z (h t z e hz)]
  simp[e]
 simp only[Array.getElem?_mapIdx,ht,if_false]
 cases a.tmps[t]? <;> rfl
theorem up_fore{up up':Up}(h:DoesUp P ops x S u up)(hy:DoesUp P ops y S u up')(hyx:∀d,y.dst=some d→d∉x.looksAt ops)(hne:∀d,x.dst=some d→y.dst≠some d)(hsel:∀cs q,x.op≠.select cs q):DoesUp P ops x (S.app y.dst up') u up:=by
 have hfy:=up_free hy;refine up_carry h hsel (fun r hr=>zwa (fun e=>hyx r e hr)) (fun d hd=>?_) (fun t ht hv=>?_) (fun _ r hr z s V h1 h2 h3=>up_var hy h3) (fun B a hr=>?_)
 ·obtain⟨h1,h2⟩:=up_free h d hd;rw[app_n,zwa (hne d hd)];exact⟨h1,h2⟩
 ·rw[app_var_ne (hne t ht)];exact hv
 obtain⟨a',h1,h2⟩:=reg_mend (S:=S) y.dst.toList (app_n _ _) (fun t z ht hz=>by rw[zwa (fun e=>ht (by simp[e]))];exact hz) (fun t ht z hz=>(hfy t (by simpa using ht)).1) hr;exact⟨a',h1,fun t ht=>h2 t (fun e=>hyx t (by simpa using e) ht)⟩
theorem unpub_reg{pubs:List Tmp}{r:Tmp}(h:r∉pubs):(S.unpub pubs).reg r=S.reg r:=by
 simp only[St.unpub]
 have:pubs.contains r=false:=by
  cases e:pubs.contains r with
  | true=>exact absurd (List.contains_iff_mem.1 e) h
  | false=>rfl
 rw[this];rfl
theorem unpub_var{pubs:List Tmp}{r:Tmp}(h:r∉pubs):(S.unpub pubs).var r=S.var r:=by
 simp only[St.unpub]
 have:pubs.contains r=false:=by
  cases e:pubs.contains r with
  | true=>exact absurd (List.contains_iff_mem.1 e) h
  | false=>rfl
 rw[this];rfl
theorem put_reg_ne{d:Option Tmp}{z:Option SV}{r:Tmp}(h:d≠some r):(S.put d z).reg r=S.reg r:=by
 cases d with
 | none=>rfl
 | some t=>exact upd_ne _ _ (fun e=>h (by rw[e]))
theorem up_foreV{up:Up}{v:Value}(h:DoesUp P ops x S u up)(hfy:Free y S)(hyx:∀d,y.dst=some d→d∉x.looksAt ops)(hne:∀d,x.dst=some d→y.dst≠some d)(hsel:∀cs q,x.op≠.select cs q):DoesUp P ops x (S.put y.dst (some (.v v))) u up:=by
 refine up_carry h hsel (fun r hr=>put_reg_ne (fun e=>hyx r e hr)) (fun d hd=>?_) (fun t ht hv=>by rw[put_var];exact hv) (fun _ r hr z s V h1 h2 h3=>by rw[put_var];exact h3) (fun B a hr=>?_)
 ·obtain⟨h1,h2⟩:=up_free h d hd;rw[put_n,put_reg_ne (hne d hd)];exact⟨h1,h2⟩
 obtain⟨a',h1,h2⟩:=reg_mend (S:=S) y.dst.toList (put_n _ _) (fun t z ht hz=>by rw[put_reg_ne (fun e=>ht (by simp[e]))];exact hz) (fun t ht z hz=>(hfy t (by simpa using ht)).1) hr;exact⟨a',h1,fun t ht=>h2 t (fun e=>hyx t (by simpa using e) ht)⟩
theorem up_call{up:Up}{pubs:List Tmp}{f:FuncId}{args:List SV}{v:Value}(h:DoesUp P ops x S u up)(hy:DoesCall P ops y S f args)(hp:PubOK S pubs)(hb:∀t∈pubs,t<S.n)(hyx:∀d,y.dst=some d→d∉x.looksAt ops)(hne:∀d,x.dst=some d→y.dst≠some d)
  (hpx:∀t∈pubs,t∉x.looksAt ops) (hdx:∀d,x.dst=some d→d∉pubs) (hsel:∀cs q,x.op≠.select cs q):DoesUp P ops x ((S.unpub pubs).put y.dst (some (.v v))) u up:=by
 refine up_carry h hsel (fun r hr=>?_) (fun d hd=>?_) (fun t ht hv=>?_) (fun _ r hr z s V h1 h2 h3=>?_) (fun B a hr=>?_)
 ·rw[put_reg_ne (fun e=>hyx r e hr),unpub_reg (fun e=>hpx r e hr)]
 ·obtain⟨h1,h2⟩:=up_free h d hd;rw[put_n,put_reg_ne (hne d hd),unpub_reg (hdx d hd)];exact⟨h1,h2⟩
 ·rw[put_var,unpub_var (hdx t ht)];exact hv
 ·rw[put_var,unpub_var (fun e=>hpx r (hp.reg r z s h1 h2 e) (load_looks hr))];exact h3
 obtain⟨a',h1,h2⟩:=reg_mend (S:=S) (y.dst.toList++pubs) (by rw[put_n];rfl) (fun t z ht hz=>by
  simp only[List.mem_append,not_or] at ht
  rw[put_reg_ne (fun e=>ht.1 (by simp[e])),unpub_reg ht.2];exact hz) (fun t ht z hz=>by
  rcases List.mem_append.1 ht with ht|ht
  ·exact(hy.1 t (by simpa using ht)).1
  exact hb t ht) hr
 refine⟨a',h1,fun t ht=>h2 t fun e=>?_⟩
 rcases List.mem_append.1 e with e|e
 ·exact hyx t (by simpa using e) ht
 exact hpx t e ht
theorem up_store{up:Up}{s:Tmp}{V V':Vr}(h:DoesUp P ops x S u up)(hs:S.var s=some V)(hsel:∀cs q,x.op≠.select cs q)
  (hl:∀t r,x.op=.load t (.tmp r)→∀s' off,S.reg r=some (.adr s' off)→s'≠s):DoesUp P ops x (S.setVar s V') u up:=by
 cases up with
 | set z=>
  refine⟨h.1,?_⟩
  rcases h.2 with h1|⟨T',r,s',off,V1,agg,n,g1,g2,g3,g4,g5,g6⟩
  ·exact .inl ⟨h1.1,fun B a w u' hr=>h1.2 B a w u' ⟨hr.reg,hr.size⟩⟩
  refine .inr ⟨T',r,s',off,V1,agg,n,g1,g2,?_,g4,g5,fun B a hr=>g6 B a ⟨hr.reg,hr.size⟩⟩;show upd S.var s (some V') s'=some V1;rw[upd_ne _ _ (hl _ r g1 s' off g2)];exact g3
 | drop=>exact⟨h.1,fun B a hr=>h.2 B a ⟨hr.reg,hr.size⟩⟩
 | new V1=>
  obtain⟨hf,t,g1,g2,g4⟩:=h;refine⟨hf,t,g1,?_,fun B a w hr=>g4 B a w ⟨hr.reg,hr.size⟩⟩;show upd S.var s (some V') t=none;rw[upd_ne _ _ (fun e=>by rw[e,hs] at g2;cases g2)];exact g2
 | lit V1 n=>
  obtain⟨hf,t,g1,g2,g4⟩:=h;refine⟨hf,t,g1,?_,fun B a w hr=>g4 B a w ⟨hr.reg,hr.size⟩⟩;show upd S.var s (some V') t=none;rw[upd_ne _ _ (fun e=>by rw[e,hs] at g2;cases g2)];exact g2
theorem st_ext{S T:St}(h1:S.n=T.n)(h2:S.reg=T.reg)(h3:S.var=T.var):S=T:=by
 cases S;cases T;cases h1;cases h2;cases h3;rfl
theorem app_comm{d e:Option Tmp}{up up':Up}(h:∀t,d=some t→e≠some t):(S.app d up).app e up'=(S.app e up').app d up:=by
 cases d with
 | none=>cases up<;>rfl
 | some t=>
  cases e with
  | none=>cases up' <;> rfl
  | some s=>
   have hne:s≠t:=fun k=>h t rfl (by rw[k])
   cases up<;>cases up' <;> simp only[St.app,St.put]<;>exact st_ext rfl (upd_comm _ _ _ hne) (by first|rfl|exact upd_comm _ _ _ hne)
theorem setVar_comm{d:Option Tmp}{up:Up}{s:Tmp}{V V':Vr}(hs:S.var s=some V)(h:DoesUp P ops x S u up)(hd:x.dst=d):(S.app d up).setVar s V'=(S.setVar s V').app d up:=by
 cases d with
 | none=>cases up<;>rfl
 | some t=>
  cases up with
  | set z=>rfl
  | drop=>rfl
  | new V1=>
   obtain⟨_,t',g1,g2,_⟩:=h;rw[hd] at g1;injection g1 with g1;subst g1
   exact st_ext rfl rfl (upd_comm _ _ _ (fun e=>by rw[e,g2] at hs;cases hs))
  | lit V1 n=>
   obtain⟨_,t',g1,g2,_⟩:=h;rw[hd] at g1;injection g1 with g1;subst g1
   exact st_ext rfl rfl (upd_comm _ _ _ (fun e=>by rw[e,g2] at hs;cases hs))
theorem unpub_comm{d e:Option Tmp}{up:Up}{pubs:List Tmp}{z:SV}(h:∀t,d=some t→e≠some t)(hp:∀t,d=some t→t∉pubs):
  ((S.app d up).unpub pubs).put e (some z)=((S.unpub pubs).put e (some z)).app d up:=by
 have h1:(S.app d up).unpub pubs=(S.unpub pubs).app d up:=by
  cases d with
  | none=>cases up<;>rfl
  | some t=>
   have hc:pubs.contains t=false:=by
    cases e:pubs.contains t with
    | true=>exact absurd (List.contains_iff_mem.1 e) (hp t rfl)
    | false=>rfl
   have key:∀{α:Type} (g:Tmp→Option α) (y:Option α),(fun r=>bif pubs.contains r then none else upd g t y r)=upd (fun r=>bif pubs.contains r then none else g r) t y:=fun g y=>by
    funext r
    by_cases k:r=t
    ·subst k;rw[hc,zxb,zxb];rfl
    rw[upd_ne _ _ k,upd_ne _ _ k]
   cases up<;>simp only[St.app,St.put,St.unpub]<;>exact st_ext rfl (key _ _) (by first|rfl|exact key _ _)
 rw[h1];exact app_comm (up':=.set z) h
end
def swapOk(ops:Array Oper)(x y:Oper×List Tmp):Bool:=
 opK x.1.op==0&&x.2.isEmpty&&x.1.apart ops y.1 &&
  (bif isStore y.1.op then(match x.1.op with|.load _ (.tmp r)=>y.2.contains r && !(x.1.dst==some r)|.load .. => false|_=>true)
   else opK y.1.op != 2&&(match x.1.dst with|some d => !y.2.contains d|none=>true)&&y.2.all (fun t => !(x.1.looksAt ops).contains t))
section
variable {P:Program} {ops:Array Oper} {w0:Base} {u0:World} {S:St} {B:Tmp→Nat} {a:Act} {w u u':World}
theorem notSelect{o:Op}(h:opK o≠2):∀cs q,o≠.select cs q:=by rintro cs q rfl;exact h rfl
theorem swap1{x y:Oper×List Tmp}{up:Up}{k:St→World→Prop}(hS:S.Wf)(hok:swapOk ops x y=true)(hk:Mono k)(hx:DoesUp P ops x.1 S u up)(h:one P ops w0 u0 false y (S.app x.1.dst up) u k):
  one P ops w0 u0 false y S u (fun S1 u1=>one P ops w0 u0 false x S1 u1 k):=by
 simp only[swapOk,Bool.and_eq_true,beq_iff_eq] at hok
 obtain⟨⟨⟨ab,_⟩,hap⟩,hok⟩:=hok;obtain⟨hxy,hne,hyx⟩:=Oper.apart_spec hap;have hsx:=notSelect (o:=x.1.op) (by rw[ab];decide)
 cases hst:isStore y.1.op with
 | true=>
  rw[hst] at hok
  have aa:opK y.1.op=2:=by
   cases hy:y.1.op<;>simp[hy,isStore] at hst
   rfl
  rcases h with ⟨h0,up',h1,h2⟩|⟨h0,_⟩|⟨h0,_⟩|⟨s,V',h1,h2⟩|⟨_,_,h0,_⟩
  ·exact absurd aa h0
  ·rw[aa] at h0;cases h0
  ·rcases h0 with h0|h0
   ·cases h0
   rw[hst] at h0;cases h0.2
  ·obtain⟨T,r,z,off,V,v,agg,n,hop,hd,hreg,hv,hz,hT,hn,hone,hl,hV,hw,hnl⟩:=h1;have hrl:r∈y.1.looksAt ops:=List.mem_append_left _ (List.mem_filterMap.2 ⟨.tmp r,by rw[hop];simp[Op.operands],rfl⟩);have hreg':S.reg r=some (.adr s off):=by rw[←zwa (fun e=>hxy r e hrl)];exact hreg
   obtain⟨V0,ac⟩:=hS.reg r _ s hreg' rfl;have:=up_var hx ac;rw[hv] at this;injection this with this;subst this
   have hag:∀(a:Act) v,Agree (y.1.looksAt ops) (a.put x.1.dst v) a:=fun a v=>agree_put hxy;have hzl:z∈y.1.op.operands:=by rw[hop];simp[Op.operands]
   have hld:∀t r',x.1.op=.load t (.tmp r')→∀s' off',S.reg r'=some (.adr s' off')→s'≠s:=fun t r' he s' off' hr'=>by
    rw[he] at hok
    simp only[cond_true,Bool.and_eq_true,Bool.not_eq_true',beq_eq_false_iff_ne] at hok
    exact hnl r' (List.contains_iff_mem.1 hok.1) s' off' (by rw[zwa hok.2];exact hr')
   have hds:DoesStore P ops y.1 S [] s V':=by
    refine⟨T,r,z,off,V,v,agg,n,hop,hd,hreg',ac,fun B a hr=>?_,hT,hn,hone,hl,hV,fun B a hr=>?_,fun r' h=>by cases h⟩
    ·obtain⟨B1,v1,k1,_⟩:=reg_fore hS hx hr;rw[←hz B1 _ k1];exact(eval_agree (hag a v1) z hzl).symm
    obtain⟨B1,v1,k1,_⟩:=reg_fore hS hx hr;exact(zxz (hag a v1) _).1 (hw B1 _ k1)
   have ad:DoesStore P ops y.1 S y.2 s V':=by
    obtain⟨T,r,z,off,V,v,agg,n,k1,k2,k3,k4,k5,k6,k7,k8,k9,ag,af,_⟩:=hds;refine⟨T,r,z,off,V,v,agg,n,k1,k2,k3,k4,k5,k6,k7,k8,k9,ag,af,fun r' hr' t off' ht=>?_⟩
    by_cases e:x.1.dst=some r'
    ·have:=(up_free hx r' e).2;rw[ht] at this;cases this
    exact hnl r' hr' t off' (by rw[zwa e];exact ht)
   refine .inr (.inr (.inr (.inl ⟨s,V',ad,.inl ⟨by rw[ab];decide,up,up_store hx ac hsx hld,?_⟩⟩)));rw[←setVar_comm ac hx rfl];exact h2
  exact absurd aa h0
 | false=>
 rw[hst] at hok
 simp only[cond_false,Bool.and_eq_true,bne_iff_ne] at hok
 obtain⟨⟨ae,hdp⟩,hlp⟩:=hok;have hdx:∀d,x.1.dst=some d→d∉y.2:=fun d hd hm=>by rw[hd] at hdp;simp[hm] at hdp
 have hpx:∀t∈y.2,t∉x.1.looksAt ops:=fun t ht hm=>by
  have:=List.all_eq_true.1 hlp t ht
  simp[hm] at this
 have hsy:=notSelect ae
 rcases h with ⟨h0,up',h1,h2⟩|⟨h0,f,args,pubs,hpp,h1,h2,h3⟩|⟨h0,_⟩|⟨s,V',h1,_⟩|⟨_,hp2,aa,V,n,h1,h2⟩
 ·have hy:=up_back hS hx hxy hne hsy h1;refine .inl ⟨h0,up',hy,.inl ⟨by rw[ab];decide,up,up_fore hx hy hyx hne hsx,?_⟩⟩;rw[app_comm (S:=S) (d:=y.1.dst) (e:=x.1.dst) (fun t ht e=>hne t e ht)];exact h2
 ·obtain rfl:=hpp rfl;obtain⟨c1,c3,c2⟩:=h1;have hag:∀(a:Act) v,Agree (y.1.looksAt ops) (a.put x.1.dst v) a:=fun a v=>agree_put hxy;have c3':∀z∈args,From ops y.1 S z:=fun z hz=>from_back hx hxy (c3 z hz)
  have hy:DoesCall P ops y.1 S f args:=⟨free_back hne c1,c3',fun B a w hr=>by
   obtain⟨B1,v,k1,k2⟩:=reg_fore hS hx hr;obtain⟨e1,e2⟩:=c2 B1 _ w k1;rw[exec_agree hsy (hag a v)] at e2;rw[List.map_congr_left (g:=SV.conc B) (fun z hz=>SV.conc_congr fun t ht=>by obtain⟨V',hV'⟩:=(c3' z hz).wf hS t ht;exact k2 t V' hV')] at e2;exact⟨(zxz (hag a v) _).1 e1,e2⟩⟩
  have hpS:PubOK S y.2:=by
   refine⟨fun t ht=>by have:=h2.lt t ht;rw[app_n] at this;exact this,fun r z t hr hz ht=>?_⟩
   by_cases e:x.1.dst=some r
   ·have:=(up_free hx r e).2;rw[hr] at this
    simp[hz] at this
   exact h2.reg r z t (by rw[zwa e];exact hr) hz ht
  refine .inr (.inl ⟨h0,f,args,y.2,fun _=>rfl,hy,hpS,fun B w u1 e1 d1 v1=>?_⟩);refine qym (h3 B w u1 e1 d1 (fun t ht V hV=>v1 t ht V (by rw[←app_var_ne (fun e=>hdx t e ht)];exact hV))) fun v u2 g2 aa=>?_;refine .inl ⟨by rw[ab];decide,up,(up_call hx hy hpS hpS.lt hyx hne hpx hdx hsx).mono (e1.t g2.ext),?_⟩;rw[←unpub_comm hne hdx];exact aa
 ·rcases h0 with h0|h0
  ·cases h0
  exact absurd h0.1 ae
 ·obtain⟨T,r,z,off,V,v,agg,n,hop,_⟩:=h1;rw[hop] at hst;cases hst
 have hy:=up_back hS hx hxy hne hsy h1;refine .inr (.inr (.inr (.inr ⟨rfl,hp2,aa,V,n,hy,fun b u1 e1 b1 b2 b3=>.inl ⟨by rw[ab];decide,up,(up_foreV hx (up_free hy) hyx hne hsx).mono e1,?_⟩⟩)));show k ((S.app y.1.dst (.set (.v (.slice (some ⟨b,0,none⟩) n n)))).app x.1.dst up) u1;rw[app_comm (S:=S) (d:=y.1.dst) (e:=x.1.dst) (fun t ht e=>hne t e ht)];exact h2 b u1 e1 b1 b2 b3
theorem bubble{K:St→World→Prop}(hK:Mono K){y:Oper×List Tmp}{post:List (Oper×List Tmp)}:∀(pre:List (Oper×List Tmp)) (S:St) (u:World),S.Wf→(∀x∈pre,swapOk ops x y=true) →
  sym P ops w0 u0 false (pre++y::post) S u K→one P ops w0 u0 false y S u (fun S' u'=>sym P ops w0 u0 false (pre++post) S' u' K)
 | [],S,u,hS,hok,h=>h
 | x::pre,S,u,hS,hok,h=>by
  have hx:=hok x (List.mem_cons_self ..)
  have hx0:opK x.1.op=0:=by
   simp only[swapOk,Bool.and_eq_true,beq_iff_eq] at hx
   exact hx.1.1.1
  have hx2:x.2=[]:=by
   simp only[swapOk,Bool.and_eq_true,List.isEmpty_iff] at hx
   exact hx.1.1.2
  rcases h with ⟨h0,up,h1,h2⟩|⟨h0,_⟩|⟨h0,_⟩|⟨s,V',h1,_⟩|⟨_,hp2,_⟩
  ·exact swap1 hS hx (zwc hK) h1 (bubble hK pre _ u (wf_app hS h1) (fun x hx=>hok x (List.mem_cons_of_mem _ hx)) h2)
  ·rw[hx0] at h0;cases h0
  ·rcases h0 with h0|h0
   ·cases h0
   rw[hx0] at h0;cases h0.1
  ·obtain⟨T,r,z,off,V,v,agg,n,hop,_⟩:=h1;rw[hop] at hx0;cases hx0
  exact absurd hx2 hp2
def reachOf(M:List Nat)(o:Oper):Nat:=o.after.toList.foldl (fun s e=>if Region.binds .any e then s ||| (2^e.on ||| M.getD e.on 0) else s) 0
def pairOk(ops:Array Oper)(M:List Nat)(x y:Nat×List Tmp):Bool:=
 ((M.getD y.1 0).testBit x.1||swapOk ops (ops.getD x.1 default,x.2) (ops.getD y.1 default,y.2)) && !((ops.getD x.1 default).after.toList.any fun e=>Region.binds .any e&&e.on==y.1)
def pairsOk(ops:Array Oper)(M:List Nat):List (Nat×List Tmp)→Bool
 | []=>true
 | x::l=>l.all (pairOk ops M x)&&pairsOk ops M l
def nodupB:List Nat→Bool
 | []=>true
 | x::l => !l.contains x&&nodupB l
def regOk(ops:Array Oper)(M:List Nat)(q:List (Nat×List Tmp)):Bool:=
 q.length==ops.size&&nodupB (q.map (·.1))&&(List.range ops.size).all (fun i=>(q.map (·.1)).contains i)&&q.all (fun x=>x.1<ops.size && !((ops.getD x.1 default).after.toList.any fun e=>Region.binds .any e&&(e.on==x.1||ops.size≤e.on))&&(M.getD x.1 0==reachOf M (ops.getD x.1 default)))&&pairsOk ops M q
theorem foldl_bit(M:List Nat)(x:Nat):∀(l:List Edge) (s:Nat),(l.foldl (fun s e=>if Region.binds .any e then s ||| (2^e.on ||| M.getD e.on 0) else s) s).testBit x=true→s.testBit x=true∨∃e∈l,Region.binds .any e=true∧(e.on=x∨(M.getD e.on 0).testBit x=true)
 | [],s,h=>.inl h
 | e::l,s,h=>by
  rcases foldl_bit M x l _ h with h1|⟨e',h1,h2⟩
  ·dsimp only at h1
   split at h1
   ·rename_i hb
    rw[Nat.testBit_or,Nat.testBit_or,Nat.testBit_two_pow] at h1
    simp only[Bool.or_eq_true,decide_eq_true_eq] at h1
    rcases h1 with h1|h1|h1
    ·exact .inl h1
    ·exact .inr ⟨e,List.mem_cons_self ..,hb,.inl h1⟩
    exact .inr ⟨e,List.mem_cons_self ..,hb,.inr h1⟩
   exact .inl h1
  exact .inr ⟨e',List.mem_cons_of_mem _ h1,h2⟩
theorem nodupB_spec:∀{l:List Nat},nodupB l=true→l.Nodup
 | [],_=>List.nodup_nil
 | x::l,h=>by
  simp only[nodupB,Bool.and_eq_true,Bool.not_eq_true'] at h
  exact List.nodup_cons.2 ⟨(fun hm=>by rw[List.contains_iff_mem.2 hm] at h;exact absurd h.1 (by simp)),nodupB_spec h.2⟩
theorem pairsOk_spec{M:List Nat}:∀{l:List (Nat×List Tmp)},pairsOk ops M l=true→l.Pairwise (fun x y=>pairOk ops M x y=true)
 | [],_=>List.Pairwise.nil
 | x::l,h=>by
  simp only[pairsOk,Bool.and_eq_true] at h
  exact List.Pairwise.cons (fun y hy=>List.all_eq_true.1 h.1 y hy) (pairsOk_spec h.2)
def opAt(ops:Array Oper)(x:Nat×List Tmp):Oper×List Tmp:=(ops.getD x.1 default,x.2)
structure Left(ops:Array Oper)(M:List Nat)(L:List (Nat×List Tmp))(listed:Array Bool):Prop where
 nodup:(L.map (·.1)).Nodup
 pair:L.Pairwise (fun x y=>pairOk ops M x y=true)
 size:listed.size=ops.size
 mem:∀i,i<ops.size→(listed.getD i true=false↔i∈L.map (·.1))
 lt:∀x∈L,x.1<ops.size∧∀e∈(ops.getD x.1 default).after,Region.binds .any e=true→e.on≠x.1∧e.on<ops.size
 mask:∀x∈L,M.getD x.1 0=reachOf M (ops.getD x.1 default)
 closed:∀j,j<ops.size→j∉L.map (·.1)→∀x,(M.getD j 0).testBit x=true→x∉L.map (·.1)
theorem get_op{i:Nat}(h:i<ops.size):ops[i]? = some (ops.getD i default):=by
 rw[Array.getElem?_eq_getElem h];simp[h]
theorem listed_iff{listed:Array Bool}{i:Nat}(h:i<listed.size):listed.getD i false=true↔¬listed.getD i true=false:=by
 simp[h]
theorem Left.ready_mem{M:List Nat}{L:List (Nat×List Tmp)}{listed:Array Bool}(h:Left ops M L listed){i:Nat}(hi:i∈Region.ready .any ops listed):i<ops.size∧i∈L.map (·.1)∧∀e∈(ops.getD i default).after,Region.binds .any e=true→e.on∉L.map (·.1):=by
 obtain⟨h0,o,ho,hall⟩:=mem_ready.1 hi;have hlt:i<ops.size:=(Array.getElem?_eq_some_iff.1 ho).1;have hm:=(h.mem i hlt).1 h0;refine⟨hlt,hm,fun e he hb=>?_⟩;rw[get_op hlt] at ho
 injection ho with ho
 obtain⟨x,hx,hxi⟩:=List.mem_map.1 hm;have hl:=((h.lt x hx).2 e (by rw[hxi];exact he) hb).2;have:=hall e (by rw[←ho];exact he) hb;rw[listed_iff (by rw[h.size];exact hl),h.mem e.on hl] at this;exact this
theorem Left.head_ready{M:List Nat}{x:Nat×List Tmp}{L:List (Nat×List Tmp)}{listed:Array Bool}(h:Left ops M (x::L) listed):x.1∈Region.ready .any ops listed:=by
 obtain⟨h1,h2⟩:=h.lt x (List.mem_cons_self ..);refine mem_ready.2 ⟨(h.mem x.1 h1).2 (by simp),_,get_op h1,fun e he hb=>?_⟩;obtain⟨h3,h4⟩:=h2 e he hb;rw[listed_iff (by rw[h.size];exact h4),h.mem e.on h4];intro hm;obtain⟨y,hy,hye⟩:=List.mem_map.1 hm
 rcases List.mem_cons.1 hy with rfl|hy
 ·exact h3 hye.symm
 have:=(List.pairwise_cons.1 h.pair).1 y hy
 simp only[pairOk,Bool.and_eq_true,Bool.not_eq_true'] at this
 have h5:((ops.getD x.1 default).after.toList.any fun e=>Region.binds .any e&&e.on==y.1)=true:=List.any_eq_true.2 ⟨e,by simpa using he,by simp[hb,hye]⟩;rw[h5] at this;exact absurd this.2 (by simp)
theorem reach_out{M:List Nat}{L:List (Nat×List Tmp)}{listed:Array Bool}(h:Left ops M L listed){x:Nat×List Tmp}(hx:x∈L)(hout:∀e∈(ops.getD x.1 default).after,Region.binds .any e=true→e.on∉L.map (·.1)):
  ∀j,(M.getD x.1 0).testBit j=true→j∉L.map (·.1):=by
 intro j hj;rw[h.mask x hx] at hj
 rcases foldl_bit M j _ _ hj with h0|⟨e,he,hb,h1⟩
 ·simp at h0
 have he':e∈(ops.getD x.1 default).after:=by simpa using he
 have hn:=hout e he' hb
 rcases h1 with rfl|h1
 ·exact hn
 exact h.closed e.on ((h.lt x hx).2 e he' hb).2 hn j h1
theorem any_sym{M:List Nat}{K:St→World→Prop}{Q:Exit→Act→World→Prop}(hK:Mono K)(hQ:∀S u,K S u→∀B a w,Rep w0 u0 S B a w u→Q .normal a w):
  ∀(fuel:Nat) (L:List (Nat×List Tmp)) (listed:Array Bool) (S:St) (B:Tmp→Nat) (a:Act) (w u:World),L.length=fuel→Left ops M L listed→Rep w0 u0 S B a w u →
   sym P ops w0 u0 false (L.map (opAt ops)) S u K→wpAny P .any ops Q fuel listed a w:=by
 intro fuel
 induction fuel with
 | zero=>
  intro L listed S B a w u hl hL hr hs;obtain rfl:=List.length_eq_zero_iff.1 hl;refine⟨?_,hQ S u hs B a w hr⟩
  cases e:Region.ready .any ops listed with
  | nil=>rfl
  | cons i l=>
   have:=(hL.ready_mem (i:=i) (by rw[e];exact List.mem_cons_self ..)).2.1
   simp at this
 | succ fuel ih=>
  intro L listed S B a w u hl hL hr hs;refine⟨fun e=>?_,fun i hi=>?_⟩
  ·cases L with
   | nil=>cases hl
   | cons x L=>
    have:=hL.head_ready;rw[e] at this
    cases this
  obtain⟨hlt,hm,hout⟩:=hL.ready_mem hi;obtain⟨y,hy,rfl⟩:=List.mem_map.1 hm;obtain⟨pre,post,rfl⟩:=List.append_of_mem hy;have hro:=reach_out hL hy hout
  have hsw:∀x∈pre.map (opAt ops),swapOk ops x (opAt ops y)=true:=by
   intro x hx;obtain⟨x',hx',rfl⟩:=List.mem_map.1 hx;have:=(List.pairwise_append.1 hL.pair).2.2 x' hx' y (List.mem_cons_self ..)
   simp only[pairOk,Bool.and_eq_true,Bool.or_eq_true] at this
   rcases this.1 with h1|h1
   ·exact absurd (List.mem_map.2 ⟨x',by simp[hx'],rfl⟩) (hro x'.1 h1)
   exact h1
  rw[List.map_append,List.map_cons] at hs;have hone:=bubble hK (pre.map (opAt ops)) S u hr.wf hsw hs;have hsound:=one_sound (Q:=Q) (zwc hK) hone (Ext.refl _) hr
  have hL':Left ops M (pre++post) (listed.setIfInBounds y.1 true):=by
   have hsub:(pre++post).Sublist (pre++y::post):=List.Sublist.append_left (List.sublist_cons_self _ _) _
   have hyn:y.1∉(pre++post).map (·.1):=by
    have:=hL.nodup;rw[List.map_append,List.map_cons] at this;have h2:=List.nodup_append.1 this;have h3:=(List.nodup_cons.1 h2.2.1).1;intro hm;rw[List.map_append] at hm
    rcases List.mem_append.1 hm with hm|hm
    ·exact h2.2.2 y.1 hm y.1 (List.mem_cons_self ..) rfl
    exact h3 hm
   have hmem:∀j,j≠y.1→(j∈(pre++post).map (·.1)↔j∈(pre++y::post).map (·.1)):=fun j hj=>by simp[hj]
   refine⟨hL.nodup.sublist (hsub.map _),hL.pair.sublist hsub,by simp[hL.size],fun j hj=>?_,fun x hx=>hL.lt x (hsub.mem hx),fun x hx=>hL.mask x (hsub.mem hx),fun j hj hjn x hx=>?_⟩
   ·by_cases e:j=y.1
    ·subst e
     constructor
     ·intro h
      simp[hL.size,hj] at h
     intro h;exact absurd h hyn
    rw[getD_set_ne true (Ne.symm e),hmem j e];exact hL.mem j hj
   intro hmx
   by_cases e:j=y.1
   ·subst e;exact hro x hx ((hsub.map _).mem hmx)
   exact hL.closed j hj (fun h=>hjn ((hmem j e).2 h)) x hx ((hsub.map _).mem hmx)
  have hfin:∀a' w',(∃S' B' u'',Rep w0 u0 S' B' a' w' u''∧(false=false→Ext u u'')∧sym P ops w0 u0 false (pre.map (opAt ops)++post.map (opAt ops)) S' u'' K)→wpAny P .any ops Q fuel (listed.setIfInBounds y.1 true) a' w':=by
   rintro a' w' ⟨S',B',u'',g1,_,g3⟩;refine ih (pre++post) _ S' B' a' w' u'' (by simp at hl ⊢;omega) hL' g1 ?_;rw[List.map_append];exact g3
  have key:ops[y.1]? = some (opAt ops y).1:=get_op hlt
  simp only[wpOp,key]
  split
  ·rename_i hw
   rw[if_pos hw] at hsound;exact .inl (Oper.wp_mono hfin hsound)
  rename_i hw
  rw[if_neg hw] at hsound;exact hfin _ _ hsound
theorem Rep.drew(h:Rep w0 u0 S B a w u):Rep w0 u0 S B a { w with drawn:=w.drawn+1 } u:=
 ⟨h.regs,h.wf,h.defers,h.var,h.inj,⟨h.dat.size,h.dat.vis⟩,h.base,h.grow,⟨h.bel.os,h.bel.tape,h.bel.output,h.bel.size,h.bel.block⟩⟩
theorem region_any{id:Nat}{M:List Nat}{q:List (Nat×List Tmp)}{K:St→World→Prop}{Q:Exit→Act→World→Prop}(hm:P.follows .mixedOrders=true)(hok:regOk ops M q=true)(hK:Mono K)
  (hQ:∀S u,K S u→∀B a w,Rep w0 u0 S B a w u→Q .normal a w) (hr:Rep w0 u0 S B a w u) (h:sym P ops w0 u0 false (q.map (opAt ops)) S u K):(Code.region id ops true).wp P Q a w:=by
 simp only[regOk,Bool.and_eq_true,beq_iff_eq,List.all_eq_true] at hok
 obtain⟨⟨⟨⟨h1,h2⟩,h5⟩,h3⟩,h4⟩:=hok;have hnd:=nodupB_spec h2;have hall:∀i,i<ops.size→i∈q.map (·.1):=fun i hi=>List.contains_iff_mem.1 (h5 i (by simpa using hi));refine wp_region_any hm (any_sym hK hQ ops.size q _ S B a _ u h1 ⟨hnd,pairsOk_spec h4,by simp,fun i hi=>?_,fun x hx=>?_,fun x hx=>(h3 x hx).2,fun j hj hjn=>absurd (hall j hj) hjn⟩ hr.drew h)
 ·simp only[Array.getD_eq_getD_getElem?]
  rw[Array.getElem?_eq_getElem (by simpa using hi)]
  simp only[Array.getElem_replicate,Option.getD_some,true_iff]
  exact hall i hi
 obtain⟨⟨g1,g2⟩,g3⟩:=h3 x hx;refine⟨by simpa using g1,fun e he hb=>?_⟩
 simp only[Bool.not_eq_true',List.any_eq_false] at g2
 have:=g2 e (by simpa using he)
 simp[hb] at this
 exact this
theorem region_seq{id:Nat}{K:St→World→Prop}{Q:Exit→Act→World→Prop}(hK:Mono K)(hQ:∀S u,K S u→∀B a w,Rep w0 u0 S B a w u→Q .normal a w)(hr:Rep w0 u0 S B a w u)
  (h:sym P ops w0 u0 true (ops.toList.map fun o=>(o,[])) S u K):(Code.region id ops false).wp P Q a w:=by
 refine wp_region_list ?_
 have key:∀(l:List Oper) (S:St) (B:Tmp→Nat) (a:Act) (w u:World),Rep w0 u0 S B a w u→sym P ops w0 u0 true (l.map fun o=>(o,[])) S u K→wpList P ops Q l a w:=by
  intro l
  induction l with
  | nil=>intro S B a w u hr h;exact hQ S u h B a w hr
  | cons o l ih=>
   intro S B a w u hr h;have hs:=one_sound (Q:=Q) (zwc hK) h (Ext.refl _) hr;refine wpList_step fun K' hK'=>?_
   have hfin:∀a' w',(∃S' B' u'',Rep w0 u0 S' B' a' w' u''∧(true=false→Ext u u'')∧sym P ops w0 u0 true (l.map fun o=>(o,[])) S' u'' K)→K' a' w':=by
    rintro a' w' ⟨S',B',u'',g1,_,g3⟩;exact hK' _ _ (ih S' B' a' w' u'' g1 g3)
   show if Region.wanted o (yielded ops a.tmps)=true then _ else _
   split
   ·rename_i hw
    rw[if_pos hw] at hs;exact Oper.wp_mono hfin hs
   rename_i hw
   rw[if_neg hw] at hs;exact hfin _ _ hs
 exact key ops.toList S B a w u hr h
end
structure MP where
 f:Exit→St→World→Prop
 mono:∀e,Mono (f e)
section
variable (P:Program) (w0:Base) (u0:World)
def SW(c:Code)(S:St)(u:World)(Q:MP):Prop:=
 ∀B a w u',Ext u u'→Rep w0 u0 S B a w u'→c.wp P (fun e a' w'=>∃S' B' u'',Rep w0 u0 S' B' a' w' u''∧Q.f e S' u'') a w
theorem SW.mono(c:Code)(Q:MP):Mono (fun S u=>SW P w0 u0 c S u Q):=fun S u u' e h B a w u'' e' hr=>h B a w u'' (e.trans e') hr
def MP.seq(c:Code)(Q:MP):MP where
 f e S u:=match e with|.normal=>SW P w0 u0 c S u Q|e=>Q.f e S u
 mono e:=by cases e<;>first|exact SW.mono P w0 u0 c Q|exact Q.mono _
def MP.block(id:Nat)(Q:MP):MP where
 f e S u:=match e with|.exit id'=>bif Nat.beq id' id then Q.f .normal S u else Q.f (.exit id') S u|e=>Q.f e S u
 mono e:=by
  cases e<;>first|exact Q.mono _|skip
  rename_i id'
  cases h:Nat.beq id' id<;>simp only[h,cond_true,cond_false]<;>exact Q.mono _
structure Weak(S T:St):Prop where
 n:T.n=S.n
 reg:∀t x,T.reg t=some x→S.reg t=some x
 var:∀t V,T.var t=some V→S.var t=some V
 wf:T.Wf
def MP.loop(I:Nat→St→World→Prop)(n:Nat)(Q:MP)(hI:∀m,Mono (I m)):MP where
 f e S u:=match e with|.normal=>∃m,m<n∧∃T,Weak S T∧I m T u|e=>Q.f e S u
 mono e:=by
  cases e<;>first|exact Q.mono _|skip
  rintro S u u' he ⟨m,hm,T,h1,h2⟩;exact⟨m,hm,T,h1,hI m T u u' he h2⟩
end
section
variable {P:Program} {w0:Base} {u0:World} {S T:St} {B:Tmp→Nat} {a:Act} {w u u':World} {Q:MP} {c d:Code}
theorem Rep.weak(h:Rep w0 u0 S B a w u)(k:Weak S T):Rep w0 u0 T B a w u:=
 ⟨⟨fun t x hx=>h.regs.reg t x (k.reg t x hx),by rw[k.n];exact h.regs.size⟩,k.wf,h.defers,fun t V hV=>by rw[k.n];exact h.var t V (k.var t V hV),fun t t' V V' h1 h2 e=>h.inj t t' V V' (k.var t V h1) (k.var t' V' h2) e,h.dat,h.base,h.grow,h.bel⟩
theorem sw_weak(k:Weak S T)(h:SW P w0 u0 c T u Q):SW P w0 u0 c S u Q:=fun B a w u' e hr=>h B a w u' e (hr.weak k)
theorem zzd(h:SW P w0 u0 c S u (MP.seq P w0 u0 d Q)):SW P w0 u0 (.seq c d) S u Q:=by
 intro B a w u' e hr;refine wp_seq (wp_mono (h B a w u' e hr) fun ex a' w' ⟨S',B',u'',h1,h3⟩=>?_)
 cases ex with
 | normal=>exact h3 B' a' w' u'' (Ext.refl _) h1
 | _=>exact⟨S',B',u'',h1,h3⟩
theorem zzr(h:Q.f .normal S u):SW P w0 u0 .skip S u Q:=fun B a w u' e hr=>wp_skip ⟨S,B,u',hr,Q.mono _ _ _ _ e h⟩
theorem zzn(h:Q.f .ret S u):SW P w0 u0 .ret S u Q:=fun B a w u' e hr=>wp_ret ⟨S,B,u',hr,Q.mono _ _ _ _ e h⟩
theorem zyb{id:Nat}(h:Q.f (.exit id) S u):SW P w0 u0 (.exit id) S u Q:=fun B a w u' e hr=>wp_exit ⟨S,B,u',hr,Q.mono _ _ _ _ e h⟩
theorem zzs{id:Nat}(h:SW P w0 u0 c S u (MP.block id Q)):SW P w0 u0 (.block id c) S u Q:=by
 intro B a w u' e hr;refine wp_block (wp_mono (h B a w u' e hr) fun ex a' w' ⟨S',B',u'',h1,h3⟩=>?_)
 cases ex with
 | exit id'=>
  simp only[Exit.inBlock]
  by_cases hid:id'=id
  ·subst hid;rw[if_pos rfl]
   simp only[MP.block,Nat.beq_refl,cond_true] at h3
   exact⟨S',B',u'',h1,h3⟩
  rw[if_neg hid]
  have hb:Nat.beq id' id=false:=by
   cases h:Nat.beq id' id with
   | true=>exact absurd (Nat.eq_of_beq_eq_true h) hid
   | false=>rfl
  simp only[MP.block,hb,cond_false] at h3
  exact⟨S',B',u'',h1,h3⟩
 | _=>exact⟨S',B',u'',h1,h3⟩
theorem zzt{t:Tmp}{b:Bool}(hr:S.reg t=some (.v (.bool b)))(h1:b=true→SW P w0 u0 c S u Q)(h2:b=false→SW P w0 u0 d S u Q):SW P w0 u0 (.cond (.tmp t) c d) S u Q:=by
 intro B a w u' e hrep;refine wp_cond_split (t:=b) (hrep.regs.eval hr) (fun hb=>h1 hb B a w u' e hrep) (fun hb=>h2 hb B a w u' e hrep)
theorem zyq{t:Tmp}(hr:S.reg t=some (.v (.bool true)))(h1:SW P w0 u0 c S u Q):SW P w0 u0 (.cond (.tmp t) c d) S u Q:=zzt hr (fun _=>h1) (fun h=>by cases h)
theorem zyr{t:Tmp}(hr:S.reg t=some (.v (.bool false)))(h1:SW P w0 u0 d S u Q):SW P w0 u0 (.cond (.tmp t) c d) S u Q:=zzt hr (fun h=>by cases h) (fun _=>h1)
theorem zzy{id:Nat}{ops:Array Oper}(M:List Nat)(q:List (Nat×List Tmp))(hm:P.follows .mixedOrders=true)(hok:regOk ops M q=true)(h:sym P ops w0 u0 false (q.map (opAt ops)) S u (Q.f .normal)):SW P w0 u0 (.region id ops true) S u Q:=by
 intro B a w u' e hr;exact region_any hm hok (Q.mono _) (fun S u'' h B' a' w' hr'=>⟨S,B',u'',hr',h⟩) hr (zwc (Q.mono _) S u u' e h)
theorem zzf{id:Nat}{ops:Array Oper}(h:sym P ops w0 u0 true (ops.toList.map fun o=>(o,[])) S u (Q.f .normal)):SW P w0 u0 (.region id ops false) S u Q:=by
 intro B a w u' e hr;exact region_seq (Q.mono _) (fun S u'' h B' a' w' hr'=>⟨S,B',u'',hr',h⟩) hr (zwc (Q.mono _) S u u' e h)
theorem sq9{d:Code}{id:Nat}{ops:Array Oper}(h:sym P ops w0 u0 true (ops.toList.map fun o=>(o,[])) S u ((MP.seq P w0 u0 d Q).f .normal)):SW P w0 u0 (.seq (.region id ops false) d) S u Q:=zzd (zzf h)
theorem least{p:Nat→Prop}:∀n,p n→∃m,p m∧∀k,p k→m≤k:=by
 intro n
 induction n using Nat.strongRecOn with
 | _ n ih=>
  intro h
  by_cases hc:∃k,k<n∧p k
  ·obtain⟨k,h1,h2⟩:=hc;exact ih k h1 h2
  exact⟨n,h,fun k hk=>Nat.le_of_not_lt fun hlt=>hc ⟨k,hlt,hk⟩⟩
theorem zym{I:Nat→St→World→Prop}(hI:∀m,Mono (I m))(n:Nat)(hw:Weak S T)(h0:I n T u)(h:∀n S u,I n S u→SW P w0 u0 c S u (MP.loop I n Q hI)):SW P w0 u0 (.loop c) S u Q:=by
 intro B a w u' e hr
 let J:Nat→Act→World→Prop:=fun n a w=>∃S B u'',Rep w0 u0 S B a w u''∧I n S u''
 let μ:Act→World→Nat:=fun a w=>Classical.epsilon fun m=>J m a w∧∀k,J k a w→m≤k
 have hμ:∀a w n,J n a w→J (μ a w) a w∧μ a w≤n:=fun a w n hn=>by
  have:=Classical.epsilon_spec (p:=fun m=>J m a w∧∀k,J k a w→m≤k) (least n hn);exact⟨this.1,this.2 n hn⟩
 refine wp_loop (fun a w=>∃n,J n a w) μ ⟨n,T,B,u',hr.weak hw,hI n T u u' e h0⟩ ?_;rintro a w ⟨n,hn⟩;obtain⟨S1,B1,u1,r1,i1⟩:=(hμ a w n hn).1;refine wp_mono (h _ S1 u1 i1 B1 a w u1 (Ext.refl _) r1) fun ex a' w' ⟨S',B',u'',k1,k3⟩=>?_
 cases ex with
 | normal=>
  obtain⟨m,hm,T',t1,t2⟩:=k3;have hJ:J m a' w':=⟨T',B',u'',k1.weak t1,t2⟩
  exact⟨⟨m,hJ⟩,Nat.lt_of_le_of_lt (hμ a' w' m hJ).2 hm⟩
 | _=>exact⟨S',B',u'',k1,k3⟩
def resV(P:Program)(S:St):ResultVar→SV→Prop
 | .tmp t,x=>S.reg t=some x
 | .cell r T,x=>∃s off V agg n,S.reg r=some (.adr s off)∧S.var s=some V∧TyIs P T agg n∧PartIs V.cs off agg n x
def resAll(P:Program)(S:St):List ResultVar→List SV→Prop
 | [],[]=>True
 | r::rs,x::xs=>resV P S r x∧resAll P S rs xs
 | _,_=>False
def tupV:List Value→Value
 | [v]=>v
 | vs=>.tuple vs.toArray
def MP.fin(P:Program)(rs:List ResultVar)(Φ:Value→World→Prop):MP where
 f e S u:=match e with
  | .ret|.normal=>∃xs pubs,resAll P S rs xs∧(∀t∈pubs,∃V,S.var t=some V)∧∀B u1,Ext u u1→Visible S B u1 pubs→Φ (tupV (xs.map (SV.conc B))) u1
  | _=>False
 mono e:=by
  cases e<;>first|exact fun _ _ _ _ h=>h|skip
  all_goals exact fun S u u' he ⟨xs,pubs,h1,h2,h3⟩=>⟨xs,pubs,h1,h2,fun B u1 e1=>h3 B u1 (he.trans e1)⟩
theorem load_res{r:Tmp}{T:TypeId}{x:SV}(h:resV P S (.cell r T) x)(hr:Rep w0 u0 S B a w u):(do loadVar T (←asAddr (a.tmps.getD r undef)):Sem Value).run P w=.ok (x.conc B) w:=by
 obtain⟨s,off,V,agg,n,g1,g2,g3,g4⟩:=h;have:=hr.regs.eval g1
 simp only[Act.eval] at this
 rw[this];obtain⟨r1,r2⟩:=run_load_var (P:=P) (off:=off) g3 (hr.var s V g2).1;have e:(do loadVar T (←asAddr ((SV.adr s off).conc B)):Sem Value).run P w=(Instr.loadAt T (.pointer (some ⟨B s,off,none⟩))).run P w:=rfl;rw[e]
 cases agg with
 | true=>obtain⟨l2,rfl⟩:=g4;exact r1 rfl l2
 | false=>obtain⟨v,l1,rfl⟩:=g4;exact r2 rfl _ l1
def resSem(tmps:Array Value):ResultVar→Sem Value
 | .tmp t=>pure (tmps.getD t undef)
 | .cell a t=>do loadVar t (←asAddr (tmps.getD a undef))
theorem zwg{r:ResultVar}{x:SV}(h:resV P S r x)(hr:Rep w0 u0 S B a w u):(resSem a.tmps r).run P w=.ok (x.conc B) w:=by
 cases r with
 | tmp t=>
  have:=hr.regs.eval h
  simp only[Act.eval] at this
  simp only[resSem,this];rfl
 | cell r T=>exact load_res h hr
theorem results_def(fn:Func)(tmps:Array Value):results fn tmps=(do let vs ←fn.results.mapM (resSem tmps);pure (if h:vs.size=1 then vs[0] else .tuple vs)):=by
 unfold results
 congr 1
theorem results_eq{fn:Func}{rs:List ResultVar}{xs:List SV}(hfn:fn.results=rs.toArray)(h:resAll P S rs xs)(hr:Rep w0 u0 S B a w u)(hl:rs.length≤4):(results fn a.tmps).run P w=.ok (tupV (xs.map (SV.conc B))) w:=by
 rw[results_def,hfn]
 match rs,xs,h with
 | [],[],_=>simp[go_sem,tupV]
 | [r1],[x1],⟨h1,_⟩=>
  have k1:=zwg h1 hr
  simp[go_sem,tupV,k1]
 | [r1,r2],[x1,x2],⟨h1,h2,_⟩=>
  have k1:=zwg h1 hr;have k2:=zwg h2 hr
  simp[go_sem,tupV,k1,k2]
 | [r1,r2,r3],[x1,x2,x3],⟨h1,h2,h3,_⟩=>
  have k1:=zwg h1 hr;have k2:=zwg h2 hr;have k3:=zwg h3 hr
  simp[go_sem,tupV,k1,k2,k3]
 | [r1,r2,r3,r4],[x1,x2,x3,x4],⟨h1,h2,h3,h4,_⟩=>
  have k1:=zwg h1 hr;have k2:=zwg h2 hr;have k3:=zwg h3 hr;have k4:=zwg h4 hr
  simp[go_sem,tupV,k1,k2,k3,k4]
def St.init(n:Nat)(args:List Value):St:=⟨n,fun t=>(args[t]?).map SV.v,fun _=>none⟩
theorem zzl{f:FuncId}{fn:Func}{args:List Value}{Φ:Value→World→Prop}{rs:List ResultVar}{n:Nat}(hf:P.funcs[f]? = some fn)(hb:fn.body=some c)(hn:fn.ntmps=n)(hrs:fn.results=rs.toArray){w0:World}(d:Dat u0 w0)(h:SW P ⟨w0,none,[]⟩ u0 c (St.init n args) u0 (MP.fin P rs Φ))(hargs:args.length≤n:=by exact Nat.le_of_ble_eq_true rfl)(hl:rs.length≤4:=by exact Nat.le_of_ble_eq_true rfl):
  Calls P f args.toArray w0 (Post u0 w0 Φ):=by
 refine calls_of_wp hf hb (wp_mono (h (fun _=>0) _ w0 u0 (Ext.refl _) ?_) ?_)
 ·refine⟨⟨fun t x hx=>?_,by simp[St.init,hn];omega⟩,⟨fun r x t hx ht=>?_⟩,rfl,(fun t V h=>by cases h),(fun t t' V V' h=>by cases h),d,d.size,GrowF.refl _ _,⟨rfl,rfl,rfl,Nat.le_refl _,fun _ _ _ _=>rfl⟩⟩
  ·simp only[St.init,Option.map_eq_some_iff] at hx
   obtain⟨v,h1,rfl⟩:=hx;have hlt:t<args.toArray.size:=by have:=(List.getElem?_eq_some_iff.1 h1).1;simpa using this
   rw[Array.getElem?_append_left hlt];show args.toArray[t]? = some v
   simpa using h1
  simp only[St.init,Option.map_eq_some_iff] at hx
  obtain⟨v,h1,rfl⟩:=hx
  cases ht
 rintro ex a' w' ⟨S',B',u'',r1,r3⟩
 have key:(∃xs pubs,resAll P S' rs xs∧(∀t∈pubs,∃V,S'.var t=some V)∧∀B u1,Ext u'' u1→Visible S' B u1 pubs→Φ (tupV (xs.map (SV.conc B))) u1)→a'.defers=[]∧∃v,(results fn a'.tmps).run P w'=.ok v w'∧Post u0 w0 Φ (.returned v) w':=by
  rintro ⟨xs,pubs,k1,k2,k3⟩;refine⟨r1.defers,_,results_eq hrs k1 r1 hl,_,pubW u'' w' (pubs.map B'),rfl,pubW_dat r1.dat,⟨r1.bel.os,r1.bel.tape,r1.bel.output,r1.bel.size,fun k hk=>r1.bel.block k hk (fun t e=>by cases e) (by simp)⟩,(pubW_grow r1.grow (fun b hb=>?_)).nil,k3 B' _ (pubW_ext r1.dat) (fun t ht V hV=>?_)⟩
  ·obtain⟨t,ht,rfl⟩:=List.mem_map.1 hb;obtain⟨V,hV⟩:=k2 t ht;have ho:=(r1.var t V hV).2.2
   rcases Nat.lt_or_ge t S'.n with hs3|hs3
   ·exact ho.1 hs3
   exact absurd (ho.2 hs3) (by simp)
  obtain⟨v1,v2,_⟩:=r1.var t V hV;rw[pubW_in (List.mem_map_of_mem ht) (zyz v2) r1.dat.size];exact v1
 cases ex with
 | ret=>exact key r3
 | normal=>exact key r3
 | _=>exact r3.elim
def St.lentI(n:Nat)(ty:TypeId)(cs:List Value)(len cap:Nat)(args:List Value):St:=⟨n,fun t=>match t with|0=>some (.slc n 0 len cap)|t+1=>(args[t]?).map SV.v,upd (fun _=>none) n (some ⟨ty,cs⟩)⟩
def MP.lent(n:Nat)(Φ:Vr→World→Prop):MP where
 f e S u:=match e with|.normal=>∃V,S.n=n∧S.var n=some V∧∀u1,Ext u u1→Φ V u1|.ret=>∃V,S.n=n∧S.var n=some V∧∀u1,Ext u u1→Φ V u1|_=>False
 mono e:=by cases e<;>first|exact fun S u u' he ⟨V,h0,h1,h2⟩=>⟨V,h0,h1,fun u1 e1=>h2 u1 (he.trans e1)⟩|exact fun S u u' he h=>h
def PostL(u w:World)(g:Nat)(Φ:Vr→World→Prop)(e:Ending)(w':World):Prop:=
 ∃u' V,e=.returned (.tuple #[])∧Dat u' w'∧Bel ⟨w,some (0,g),[]⟩ w'∧Grow u u'∧w'.heap[g]? = some (.cells V.cs.toArray V.ty (0,0))∧Φ V u'
theorem lent_begin{fn:Func}{args:List Value}{n g len cap:Nat}{ty:TypeId}{cs:List Value}{w:World}(hn:fn.ntmps=n)(hargs:args.length+1≤n)(d:Dat u0 w)
  (hgw:w.heap[g]? = some (.cells cs.toArray ty (0,0))) (hgu:u0.heap[g]? = some hidO) {a:Act} (ha:a.tmps=(Value.slice (some ⟨g,0,none⟩) len cap::args).toArray++Array.replicate (fn.ntmps-(Value.slice (some ⟨g,0,none⟩) len cap::args).toArray.size) undef) (hdf:a.defers=[]) :
  Rep ⟨w,some (n,g),[]⟩ u0 (St.lentI n ty cs len cap args) (fun _=>g) a w u0:=by
 refine⟨⟨fun t x hx=>?_,by rw[ha];simp[St.lentI,hn];omega⟩,⟨fun r x t hx ht=>?_⟩,hdf,(fun t V hV=>?_),(fun t t' V V' h1 h2 _=>?_),d,d.size,GrowF.refl _ _,⟨rfl,rfl,rfl,Nat.le_refl _,fun _ _ _ _=>rfl⟩⟩
 ·have key:((Value.slice (some ⟨g,0,none⟩) len cap::args).toArray)[t]? = some (x.conc fun _=>g):=by
   cases t with
   | zero=>simp only[St.lentI] at hx;injection hx with hx;subst hx;rfl
   | succ t=>
    simp only[St.lentI,Option.map_eq_some_iff] at hx
    obtain⟨v,h1,rfl⟩:=hx
    simpa[SV.conc] using h1
  have hlt:t<(Value.slice (some ⟨g,0,none⟩) len cap::args).toArray.size:=by
   rcases Nat.lt_or_ge t (Value.slice (some ⟨g,0,none⟩) len cap::args).toArray.size with h|h
   ·exact h
   rw[Array.getElem?_eq_none h] at key;cases key
  rw[ha,Array.getElem?_append_left hlt];exact key
 ·cases r with
  | zero=>simp only[St.lentI] at hx;injection hx with hx;subst hx;injection ht with ht;subst ht;exact⟨⟨ty,cs⟩,by simp[St.lentI,zxb]⟩
  | succ r=>
   simp only[St.lentI,Option.map_eq_some_iff] at hx
   obtain⟨v,h1,rfl⟩:=hx
   cases ht
 ·by_cases e:t=n
  ·subst e
   simp only[St.lentI,zxb] at hV
   injection hV with hV
   subst hV;exact⟨hgw,hgu,fun e=>absurd e (by simp[St.lentI]),fun _=>rfl⟩
  simp only[St.lentI,upd_ne _ _ e] at hV;cases hV
 have key:∀t V,(St.lentI n ty cs len cap args).var t=some V→t=n:=fun t V hV=>by
  by_cases e:t=n
  ·exact e
  simp only[St.lentI,upd_ne _ _ e] at hV;cases hV
 rw[key t V h1,key t' V' h2]
theorem lent_pin{n g:Nat}{w w':World}{S':St}{B':Tmp→Nat}{a':Act}{u'':World}{V:Vr}(r1:Rep ⟨w,some (n,g),[]⟩ u0 S' B' a' w' u'')(k0:S'.n=n)(k1:S'.var n=some V):B' n=g:=by
 have:=(r1.var n V k1).2.2.2 (by rw[k0];exact Nat.le_refl _)
 injection this with this;injection this with _ this;exact this.symm
theorem lent_bel{n g:Nat}{w w':World}(h:Bel ⟨w,some (n,g),[]⟩ w'):Bel ⟨w,some (0,g),[]⟩ w':=
 ⟨h.os,h.tape,h.output,h.size,fun k hk hl hf=>h.block k hk (fun t e=>hl 0 (by injection e with e;injection e with e1 e2;subst e2;rfl)) hf⟩
theorem calls_lent{f:FuncId}{fn:Func}{args:List Value}{Φ:Vr→World→Prop}{n g len cap:Nat}{ty:TypeId}{cs:List Value}{w:World}(hf:P.funcs[f]? = some fn)(hb:fn.body=some c)(hn:fn.ntmps=n)(hrs:fn.results=#[])(hargs:args.length+1≤n)(d:Dat u0 w)
  (hgw:w.heap[g]? = some (.cells cs.toArray ty (0,0))) (hgu:u0.heap[g]? = some hidO) (h:SW P ⟨w,some (n,g),[]⟩ u0 c (St.lentI n ty cs len cap args) u0 (MP.lent n Φ)) :
  Calls P f (Value.slice (some ⟨g,0,none⟩) len cap::args).toArray w (PostL u0 w g Φ):=by
 refine calls_of_wp hf hb (wp_mono (h (fun _=>g) _ w u0 (Ext.refl _) (lent_begin hn hargs d hgw hgu rfl rfl)) ?_);rintro ex a' w' ⟨S',B',u'',r1,r3⟩
 have key:(∃V,S'.n=n∧S'.var n=some V∧∀u1,Ext u'' u1→Φ V u1)→a'.defers=[]∧∃v,(results fn a'.tmps).run P w'=.ok v w'∧PostL u0 w g Φ (.returned v) w':=by
  rintro ⟨V,k0,k1,k2⟩;obtain⟨g1,g2,g3⟩:=r1.var n V k1;refine⟨r1.defers,_,results_eq (rs:=[]) (xs:=[]) hrs trivial r1 (by simp),u'',V,rfl,r1.dat,lent_bel r1.bel,r1.grow.nil,?_,k2 _ (Ext.refl _)⟩;rw[←lent_pin r1 k0 k1];exact g1
 cases ex with
 | ret=>exact key r3
 | normal=>exact key r3
 | _=>exact r3.elim
theorem lent_end{n:Nat}{Φ:Vr→World→Prop}{V:Vr}(hn:S.n=n)(hv:S.var n=some V)(k:∀u1,Ext u u1→Φ V u1):(MP.lent n Φ).f .normal S u:=⟨V,hn,hv,k⟩
end
def St.set(S:St)(d:Tmp)(x:SV):St:=⟨S.n,upd S.reg d (some x),S.var⟩
def St.new(S:St)(d:Tmp)(V:Vr):St:=⟨S.n,upd S.reg d (some (.adr d 0)),upd S.var d (some V)⟩
def St.lit(S:St)(d:Tmp)(V:Vr)(n:Nat):St:=⟨S.n,upd S.reg d (some (.slc d 0 n n)),upd S.var d (some V)⟩
def lookL{α:Type}:List (Tmp×α)→Tmp→Option α
 | [],_=>none
 | p::l,t=>bif Nat.beq t p.1 then some p.2 else lookL l t
def St.of(n:Nat)(l:List (Tmp×SV))(m:List (Tmp×Vr)):St:=⟨n,lookL l,lookL m⟩
def evO(S:St):Operand→Option SV
 | .tmp t=>S.reg t
 | .const v=>some (.v v)
 | .global g=>some (.v (.pointer (some ⟨g,0,none⟩)))
 | .func f=>some (.v (.func (.func f) #[] #[]))
def rho(S:St)(B:Tmp→Nat)(z:Operand):Value:=match evO S z with|some x=>x.conc B|none=>undef
def knownB(S:St)(o:Oper):Bool:=o.op.operands.toList.all fun z=>(evO S z).isSome
def freeB(S:St)(d:Tmp):Bool:=Nat.blt d S.n&&((S.reg d).bind SV.at?).isNone
def fromB(ops:Array Oper)(o:Oper)(S:St)(x:SV):Bool:=
 match x.at? with
 | none=>true
 | some t=>(o.looksAt ops).any fun r=>match S.reg r with|some z=>(match z.at? with|some t'=>Nat.beq t' t|none=>false)|none=>false
section
variable {P:Program} {ops:Array Oper} {w0:Base} {u0:World} {S T:St} {B:Tmp→Nat} {a:Act} {w u u':World} {o:Oper} {p:List Tmp} {seq:Bool} {rest:List (Oper×List Tmp)} {K:St→World→Prop}
theorem rho_eval(hr:RegOK S B a)(h:knownB S o=true):∀z∈o.op.operands,a.eval z=rho S B z:=by
 intro z hz;have:=List.all_eq_true.1 h z (by simpa using hz)
 unfold rho
 cases z with
 | tmp t=>
  obtain⟨x,hx⟩:=Option.isSome_iff_exists.1 this;rw[hx];exact hr.eval hx
 | _=>rfl
theorem exec_rho(hr:RegOK S B a)(h:knownB S o=true)(hk:opK o.op≠2):execOp a.eval o=execOp (rho S B) o:=execOp_congr o (notSelect hk) (rho_eval hr h)
def Wants(ops:Array Oper)(o:Oper)(S:St):Prop:=∀B a,RegOK S B a→Want ops o a true
theorem zwf(h:o.guard=none):Wants ops o S:=fun B a hr=>by simp[Want,Region.wanted,h]
theorem wants1{g:Nat}{b:Bool}{t:Tmp}(h:o.guard=some (g,b))(ht:(ops[g]?).bind (·.dst)=some t)(hS:S.reg t=some (.v (.bool b))):Wants ops o S:=fun B a hr=>by
 have:=hr.reg t _ hS
 simp[Want,Region.wanted,h,yielded,ht,this,SV.conc]
theorem unwanted{g:Nat}{b c:Bool}{t:Tmp}(h:o.guard=some (g,b))(ht:(ops[g]?).bind (·.dst)=some t)(hS:S.reg t=some (.v (.bool c)))(hne:(c==b)=false):∀B a,RegOK S B a→Want ops o a false:=fun B a hr=>by
 have:=hr.reg t _ hS
 simp[Want,Region.wanted,h,yielded,ht,this,SV.conc]
 simpa using hne
theorem zxx{d:Tmp}(hd:o.dst=some d)(h:freeB S d=true):Free o S:=fun d' hd'=>by
 rw[hd] at hd';injection hd' with hd';subst hd'
 simp only[freeB,Bool.and_eq_true,Option.isNone_iff_eq_none] at h
 exact⟨Nat.le_of_ble_eq_true h.1,h.2⟩
theorem from_of{x:SV}(h:fromB ops o S x=true):From ops o S x:=fun t ht=>by
 simp only[fromB,ht] at h
 obtain⟨r,hr,h2⟩:=List.any_eq_true.1 h
 cases hz:S.reg r with
 | none=>simp[hz] at h2
 | some z=>
  simp only[hz] at h2
  cases hz2:z.at? with
  | none=>simp[hz2] at h2
  | some t'=>
   simp only[hz2] at h2
   exact⟨r,hr,z,hz,by rw[hz2,Nat.eq_of_beq_eq_true h2]⟩
theorem zza(d:Tmp)(x:SV)(k:sym P ops w0 u0 seq rest (S.set d x) u K)(hw:Wants ops o S:=by exact zwf xj)(hd:o.dst=some d:=by kernel_rfl)(hk:opK o.op≠2:=by decide)(hf:(freeB S d&&knownB S o&&fromB ops o S x)=true:=by kernel_rfl)
  (hrun:∀B w,(execOp (rho S B) o).run P w=.ok (.value (x.conc B)) w:=by intro _ _;kernel_rfl):sym P ops w0 u0 seq ((o,p)::rest) S u K:=by
 simp only[Bool.and_eq_true] at hf
 refine .inl ⟨hk,.set x,⟨zxx hd hf.1.1,.inl ⟨from_of hf.2,fun B a w u' hr _ _=>⟨hw B a hr,?_⟩⟩⟩,?_⟩
 ·rw[exec_rho hr hf.1.2 hk];exact hrun B w
 show sym P ops w0 u0 seq rest (S.put o.dst (some x)) u K;rw[hd];exact k
theorem zzh(d:Tmp){T:TypeId}{r s:Tmp}{off:Nat}{V:Vr}{agg:Bool}{n:Nat}(x:SV)(hT:TyIs P T agg n)(hx:PartIs V.cs off agg n x)(k:sym P ops w0 u0 seq rest (S.set d x) u K)(hw:Wants ops o S:=by exact zwf xj)(hd:o.dst=some d:=by kernel_rfl)(hop:o.op=.load T (.tmp r):=by rfl)(hf:freeB S d=true:=by kernel_rfl)(hr:S.reg r=some (.adr s off):=by rfl)(hv:S.var s=some V:=by rfl):sym P ops w0 u0 seq ((o,p)::rest) S u K:=by
 refine .inl ⟨by rw[hop];exact(by decide:(0:Nat)≠2),.set x,⟨zxx hd hf,.inr ⟨T,r,s,off,V,agg,n,hop,hr,hv,hT,hx,hw⟩⟩,?_⟩;show sym P ops w0 u0 seq rest (S.put o.dst (some x)) u K;rw[hd];exact k
theorem zzj(d:Tmp)(V:Vr)(k:sym P ops w0 u0 seq rest (S.new d V) u K)(hw:Wants ops o S:=by exact zwf xj)(hd:o.dst=some d:=by kernel_rfl)(hk:opK o.op≠2:=by decide)(hf:(freeB S d&&knownB S o)=true:=by kernel_rfl)(hv:S.var d=none:=by kernel_rfl)
  (hrun:∀B w,(execOp (rho S B) o).run P w=.ok (.value (.pointer (some ⟨w.heap.size,0,none⟩))) (w.alloc (.cells V.cs.toArray V.ty)):=by intro _ _;kernel_rfl):sym P ops w0 u0 seq ((o,p)::rest) S u K:=by
 simp only[Bool.and_eq_true] at hf
 refine .inl ⟨hk,.new V,⟨zxx hd hf.1,d,hd,hv,fun B a w hr=>⟨hw B a hr,?_⟩⟩,?_⟩
 ·rw[exec_rho hr hf.2 hk];exact hrun B w
 show sym P ops w0 u0 seq rest (S.app o.dst (.new V)) u K;rw[hd];exact k
theorem sy_lit(d:Tmp)(V:Vr)(n:Nat)(k:sym P ops w0 u0 seq rest (S.lit d V n) u K)(hw:Wants ops o S:=by exact zwf xj)(hd:o.dst=some d:=by kernel_rfl)(hk:opK o.op≠2:=by decide)(hf:(freeB S d&&knownB S o)=true:=by kernel_rfl)(hv:S.var d=none:=by kernel_rfl)
  (hrun:∀B w,(execOp (rho S B) o).run P w=.ok (.value (.slice (some ⟨w.heap.size,0,none⟩) n n)) (w.alloc (.cells V.cs.toArray V.ty)):=by intro _ _;kernel_rfl):sym P ops w0 u0 seq ((o,p)::rest) S u K:=by
 simp only[Bool.and_eq_true] at hf
 refine .inl ⟨hk,.lit V n,⟨zxx hd hf.1,d,hd,hv,fun B a w hr=>⟨hw B a hr,?_⟩⟩,?_⟩
 ·rw[exec_rho hr hf.2 hk];exact hrun B w
 show sym P ops w0 u0 seq rest (S.app o.dst (.lit V n)) u K;rw[hd];exact k
theorem zzm(d:Tmp)(hw:∀B a,RegOK S B a→Want ops o a false)(k:sym P ops w0 u0 seq rest (S.set d (.v undef)) u K)(hd:o.dst=some d:=by kernel_rfl)(hk:opK o.op≠2:=by decide)(hf:freeB S d=true:=by kernel_rfl):sym P ops w0 u0 seq ((o,p)::rest) S u K:=by
 refine .inl ⟨hk,.drop,⟨zxx hd hf,hw⟩,?_⟩;show sym P ops w0 u0 seq rest (S.put o.dst (some (.v undef))) u K;rw[hd];exact k
theorem unpub_nil(S:St):S.unpub []=S:=by cases S;rfl
theorem zzg(d:Tmp)(f:FuncId)(args:List Value)(k:∀w u1,Ext u u1→Dat u1 w→Calls P f args.toArray w (Post u1 w fun v u2=>sym P ops w0 u0 seq rest (S.set d (.v v)) u2 K))(hw:Wants ops o S:=by exact zwf xj)(hd:o.dst=some d:=by kernel_rfl)(hk:opK o.op=1:=by kernel_rfl)(hp:p=[]:=by rfl)(hf:(freeB S d&&knownB S o)=true:=by kernel_rfl)
  (hrun:∀B w,(execOp (rho S B) o).run P w=.ok (.enter f args.toArray) w:=by intro _ _;kernel_rfl):sym P ops w0 u0 seq ((o,p)::rest) S u K:=by
 simp only[Bool.and_eq_true] at hf
 subst hp;have hm:∀B:Tmp→Nat,(args.map SV.v).map (SV.conc B)=args:=fun B=>by rw[List.map_map];exact(List.map_congr_left fun y _=>rfl).trans (List.map_id args)
 refine .inr (.inl ⟨hk,f,args.map SV.v,[],fun _=>rfl,⟨zxx hd hf.1,fun z hz t ht=>?_,fun B a w hr=>⟨hw B a hr,?_⟩⟩,⟨(fun t h=>by cases h),(fun r x t _ _ h=>by cases h)⟩,fun B w u1 e1 d1 _=>?_⟩)
 ·obtain⟨y,_,rfl⟩:=List.mem_map.1 hz;cases ht
 ·rw[exec_rho hr hf.2 (by rw[hk];decide),hm];exact hrun B w
 rw[hm];refine qym (k w u1 e1 d1) fun v u2 _ h=>?_;rw[unpub_nil];show sym P ops w0 u0 seq rest (S.put o.dst (some (.v v))) u2 K;rw[hd];exact h
theorem zyn(d:Tmp)(f:FuncId)(args:List SV)(pubs:List Tmp)(hp:seq=true∨p=pubs)(hpub:PubOK S pubs)(hw:Wants ops o S:=by exact zwf xj)(hd:o.dst=some d:=by kernel_rfl)(hk:opK o.op=1:=by kernel_rfl)(hf:(freeB S d&&knownB S o&&args.all (fromB ops o S))=true:=by kernel_rfl)
  (hrun:∀B w,(execOp (rho S B) o).run P w=.ok (.enter f (args.map (SV.conc B)).toArray) w:=by intro _ _;kernel_rfl)
  (k:∀B w u1,Ext u u1→Dat u1 w→Visible S B u1 pubs→Calls P f (args.map (SV.conc B)).toArray w (Post u1 w fun v u2=>sym P ops w0 u0 seq rest ((S.unpub pubs).set d (.v v)) u2 K)):sym P ops w0 u0 seq ((o,p)::rest) S u K:=by
 simp only[Bool.and_eq_true] at hf
 refine .inr (.inl ⟨hk,f,args,pubs,fun h=>?_,⟨zxx hd hf.1.1,fun z hz=>from_of (List.all_eq_true.1 hf.2 z hz),fun B a w hr=>⟨hw B a hr,?_⟩⟩,hpub,fun B w u1 e1 d1 v1=>?_⟩)
 ·rcases hp with hp|hp
  ·rw[h] at hp;cases hp
  exact hp.symm
 ·rw[exec_rho hr hf.1.2 (by rw[hk];decide)];exact hrun B w
 refine qym (k B w u1 e1 d1 v1) fun v u2 _ h=>?_;show sym P ops w0 u0 seq rest ((S.unpub pubs).put o.dst (some (.v v))) u2 K;rw[hd];exact h
theorem zzi{T:TypeId}{r s:Tmp}{z:Operand}{off:Nat}{V:Vr}(V':Vr){v:Value}{agg:Bool}{n:Nat}(hT:TyIs P T agg n)(k:sym P ops w0 u0 seq rest (S.setVar s V') u K)(hw:Wants ops o S:=by exact zwf xj)(hd:o.dst=none:=by kernel_rfl)(hop:o.op=.store T (.tmp r) z:=by rfl)(hr:S.reg r=some (.adr s off):=by rfl)(hv:S.var s=some V:=by rfl)(hz:evO S z=some (.v v):=by rfl)
  (hn:v.cells.size=n:=by kernel_rfl) (hone:v.cells.toList.all Value.oneCell'=true:=by kernel_rfl) (hle:Nat.ble (off+n) V.cs.length=true:=by kernel_rfl) (hV:V'=⟨V.ty,setL V.cs off v.cells.toList⟩:=by kernel_rfl) (hnl:(p.all fun r'=>match S.reg r' with|some (.adr t _) => !Nat.beq t s|_=>true)=true:=by kernel_rfl):sym P ops w0 u0 seq ((o,p)::rest) S u K:=by
 refine .inr (.inr (.inr (.inl ⟨s,V',⟨T,r,z,off,V,v,agg,n,hop,hd,hr,hv,fun B a hreg=>?_,hT,hn,hone,Nat.le_of_ble_eq_true hle,hV,hw,fun r' hr' t off' ht=>?_⟩,k⟩)))
 ·cases z with
  | tmp t=>exact hreg.eval hz
  | const x=>injection hz with hz;injection hz
  | global g=>injection hz with hz;injection hz
  | func f=>injection hz with hz;injection hz
 have:=List.all_eq_true.1 hnl r' hr'
 simp only[ht,Bool.not_eq_true'] at this
 rintro rfl;rw[Nat.beq_refl] at this;cases this
theorem zxw(d:Tmp)(V:Vr)(n:Nat)(k:∀b u1,Ext u u1→u1.heap[b]? = some (.cells V.cs.toArray V.ty (0,0))→sym P ops w0 u0 true rest (S.set d (.v (.slice (some ⟨b,0,none⟩) n n))) u1 K)(hw:Wants ops o S:=by exact zwf xj)(hd:o.dst=some d:=by kernel_rfl)(hk:opK o.op≠2:=by decide)(hf:(freeB S d&&knownB S o)=true:=by kernel_rfl)
  (hrun:∀B w,(execOp (rho S B) o).run P w=.ok (.value (.slice (some ⟨w.heap.size,0,none⟩) n n)) (w.alloc (.cells V.cs.toArray V.ty)):=by intro _ _;kernel_rfl):sym P ops w0 u0 true ((o,p)::rest) S u K:=by
 simp only[Bool.and_eq_true] at hf
 refine .inr (.inr (.inl ⟨.inl rfl,fun B a w u' he hrep=>⟨hw B a hrep.regs,?_⟩⟩))
 unfold Oper.wp
 rw[exec_rho hrep.regs hf.2 hk,hrun B w];have hs:u'.heap.size=w.heap.size:=hrep.dat.size;refine⟨S.set d (.v (.slice (some ⟨w.heap.size,0,none⟩) n n)),B,u'.alloc (.cells V.cs.toArray V.ty),u'.alloc (.cells V.cs.toArray V.ty),?_,fun _=>(zxt _ _).ext,fun _=>he.trans (zxt _ _).ext,Ext.refl _,k _ _ (he.trans (zxt _ _).ext) (by rw[←hs];exact zxq _ _)⟩;rw[hd];exact(hrep.vis _).set (d:=some d) (x:=some (.v (.slice (some ⟨w.heap.size,0,none⟩) n n))) (fun t e=>by injection e with e;subst e;exact(zxx hd hf.1 d hd).1) (fun z e=>by injection e with e;rw[←e];rfl) (fun z t e ht=>by injection e with e;rw[←e] at ht;cases ht)
theorem le_b{m n:Nat}(h:Nat.ble m n=true):m≤n:=Nat.le_of_ble_eq_true h
theorem zze{cs:List Value}{off n:Nat}{x:SV}(h:Nat.ble (off+n) cs.length=true:=by kernel_rfl)(hx:x=.v (.agg ((cs.drop off).take n).toArray):=by kernel_rfl):PartIs cs off true n x:=⟨le_b h,hx⟩
theorem zzk{cs:List Value}{off n:Nat}{v:Value}(h:cs[off]? = some v:=by kernel_rfl):PartIs cs off false n (.v v):=⟨v,h,rfl⟩
theorem zzq{r:Tmp}{T:TypeId}{s:Tmp}{off:Nat}{V:Vr}{agg:Bool}{n:Nat}{x:SV}(hT:TyIs P T agg n)(hx:PartIs V.cs off agg n x)(hr:S.reg r=some (.adr s off):=by rfl)(hv:S.var s=some V:=by rfl):resV P S (.cell r T) x:=⟨s,off,V,agg,n,hr,hv,hT,hx⟩
theorem zzp{t:Tmp}{x:SV}(h:S.reg t=some x:=by kernel_rfl):resV P S (.tmp t) x:=h
theorem ret0{rs:List ResultVar}{Φ:Value→World→Prop}(vs:List Value)(h:resAll P S rs (vs.map SV.v))(k:∀u1,Ext u u1→Φ (tupV vs) u1):(MP.fin P rs Φ).f .ret S u:=by
 refine⟨vs.map SV.v,[],h,(fun t h=>by cases h),fun B u1 e1 _=>?_⟩;rw[List.map_map,show vs.map (SV.conc B ∘ SV.v)=vs from(List.map_congr_left fun y _=>rfl).trans (List.map_id vs)];exact k u1 e1
theorem zyp(d:Tmp){x:SV}(y:SV)(hxy:x=y)(k:sym P ops w0 u0 seq rest (S.set d y) u K)(hw:Wants ops o S:=by exact zwf xj)(hd:o.dst=some d:=by kernel_rfl)(hk:opK o.op≠2:=by decide)(hf:(freeB S d&&knownB S o&&fromB ops o S x)=true:=by kernel_rfl)
  (hrun:∀B w,(execOp (rho S B) o).run P w=.ok (.value (x.conc B)) w:=by intro _ _;kernel_rfl):sym P ops w0 u0 seq ((o,p)::rest) S u K:=by
 subst hxy;exact zza d x k hw hd hk hf hrun
theorem qwi(d:Tmp)(E F:Int)(h:IntKind.i64.wrap E=F)(k:sym P ops w0 u0 seq rest (S.set d (zI F)) u K)(hw:Wants ops o S:=by exact zwf xj)(hd:o.dst=some d:=by kernel_rfl)(hk:opK o.op≠2:=by decide)(hf:(freeB S d&&knownB S o&&fromB ops o S (zI (IntKind.i64.wrap E)))=true:=by kernel_rfl)
  (hrun:∀B w,(execOp (rho S B) o).run P w=.ok (.value (SV.conc B (zI (IntKind.i64.wrap E)))) w:=by intro _ _;kernel_rfl):sym P ops w0 u0 seq ((o,p)::rest) S u K:=
 zyp d (zI F) (by rw[h]) k hw hd hk hf hrun
theorem qbi(d:Tmp){b c:Bool}(h:b=c)(k:sym P ops w0 u0 seq rest (S.set d (zB c)) u K)(hw:Wants ops o S:=by exact zwf xj)(hd:o.dst=some d:=by kernel_rfl)(hk:opK o.op≠2:=by decide)(hf:(freeB S d&&knownB S o&&fromB ops o S (zB b))=true:=by kernel_rfl)
  (hrun:∀B w,(execOp (rho S B) o).run P w=.ok (.value (SV.conc B (zB b))) w:=by intro _ _;kernel_rfl):sym P ops w0 u0 seq ((o,p)::rest) S u K:=
 zyp d (zB c) (by rw[h]) k hw hd hk hf hrun
theorem zqB(d:Tmp){a b:Bool}(h:a=b)(k:sym P ops w0 u0 seq rest (S.set d (zB b)) u K)(hw:Wants ops o S:=by exact zwf xj)(hd:o.dst=some d:=by kernel_rfl)(hk:opK o.op≠2:=by decide)(hf:(freeB S d&&knownB S o&&fromB ops o S (zB a))=true:=by kernel_rfl)
  (hrun:∀B w,(execOp (rho S B) o).run P w=.ok (.value ((zB a).conc B)) w:=by intro _ _;kernel_rfl):sym P ops w0 u0 seq ((o,p)::rest) S u K:=zyp d (zB b) (congrArg zB h) k hw hd hk hf hrun
theorem zqI(d:Tmp){a b:Int}(h:a=b)(k:sym P ops w0 u0 seq rest (S.set d (zI b)) u K)(hw:Wants ops o S:=by exact zwf xj)(hd:o.dst=some d:=by kernel_rfl)(hk:opK o.op≠2:=by decide)(hf:(freeB S d&&knownB S o&&fromB ops o S (zI a))=true:=by kernel_rfl)
  (hrun:∀B w,(execOp (rho S B) o).run P w=.ok (.value ((zI a).conc B)) w:=by intro _ _;kernel_rfl):sym P ops w0 u0 seq ((o,p)::rest) S u K:=zyp d (zI b) (congrArg zI h) k hw hd hk hf hrun
theorem zzw(k:K S u):sym P ops w0 u0 seq [] S u K:=k
theorem zzo{c:Code}{Q:MP}(h:SW P w0 u0 c S u Q):(MP.seq P w0 u0 c Q).f .normal S u:=h
theorem zzv{c:Code}{Q:MP}(h:Q.f .ret S u):(MP.seq P w0 u0 c Q).f .ret S u:=h
theorem zyt{id:Nat}{Q:MP}(h:Q.f .ret S u):(MP.block id Q).f .ret S u:=h
theorem zys{I:Nat→St→World→Prop}{n:Nat}{Q:MP}{hI:∀m,Mono (I m)}(h:Q.f .ret S u):(MP.loop I n Q hI).f .ret S u:=h
theorem look_mem{α:Type}{l:List (Tmp×α)}{t:Tmp}{x:α}(h:lookL l t=some x):(t,x)∈l:=by
 induction l with
 | nil=>cases h
 | cons q l ih=>
  simp only[lookL] at h
  cases e:Nat.beq t q.1 with
  | true=>
   rw[e] at h
   injection h with h
   have:=Nat.eq_of_beq_eq_true e;subst this;subst h;exact List.mem_cons_self ..
  | false=>rw[e] at h;exact List.mem_cons_of_mem _ (ih h)
theorem map_mem{α β:Type}{l:List α}{f g:α→β}(h:l.map f=l.map g):∀x∈l,f x=g x:=by
 induction l with
 | nil=>intro x hx;cases hx
 | cons q l ih=>
  simp only[List.map_cons,List.cons.injEq] at h
  intro x hx
  rcases List.mem_cons.1 hx with rfl|hx
  ·exact h.1
  exact ih h.2 x hx
def wfB(l:List (Tmp×SV))(m:List (Tmp×Vr)):Bool:=l.all fun q=>match q.2.at? with|none=>true|some t=>(lookL m t).isSome
theorem zzu{S:St}(n:Nat)(l:List (Tmp×SV))(m:List (Tmp×Vr))(hn:n=S.n:=by rfl)(hl:l.map (fun q=>S.reg q.1)=l.map (fun q=>some q.2):=by kernel_rfl)(hm:m.map (fun q=>S.var q.1)=m.map (fun q=>some q.2):=by kernel_rfl)(hw:wfB l m=true:=by kernel_rfl):Weak S (St.of n l m):=by
 refine⟨hn,fun t x h=>map_mem hl _ (look_mem h),fun t V h=>map_mem hm _ (look_mem h),⟨fun r x t hx ht=>?_⟩⟩;have:=List.all_eq_true.1 hw _ (look_mem hx)
 simp only[ht] at this
 exact Option.isSome_iff_exists.1 this
theorem zzb{c:Code}{Q:MP}(k:SW P w0 u0 c S u Q):sym P ops w0 u0 seq [] S u ((MP.seq P w0 u0 c Q).f .normal):=k
theorem zzc{c:Code}{Q:MP}(n:Nat)(l:List (Tmp×SV))(m:List (Tmp×Vr))(k:SW P w0 u0 c (St.of n l m) u Q)(hw:Weak S (St.of n l m):=by exact zzu _ _ _):sym P ops w0 u0 seq [] S u ((MP.seq P w0 u0 c Q).f .normal):=sw_weak hw k
end
section
variable {P:Program} {ops:Array Oper} {w0:Base} {u0:World} {S T:St} {B:Tmp→Nat} {a:Act} {w u u':World} {o:Oper} {p:List Tmp} {seq:Bool} {rest:List (Oper×List Tmp)} {K:St→World→Prop}
def SlIs(P:Program)(T:TypeId)(n:Nat):Prop:=∃E agg,P.underlying T=some (.slice E)∧TyIs P E agg n
theorem run_index{T:TypeId}{n sz c:Nat}{b off:Nat}{k:IntKind}{i:Int}(hT:SlIs P T sz)(h0:0≤i)(h1:i<n):(Instr.indexAt T (.slice (some ⟨b,off,none⟩) n c) (.int k i)).run P w=.ok (.pointer (some ⟨b,off+i.toNat*sz,none⟩)) w:=by
 obtain⟨E,agg,hu,hE⟩:=hT;have hs:=(hE w).2
 simp[Instr.indexAt,asIntOf,run_underlying hu,go_sem]
 rw[if_pos ⟨h0,h1⟩];rw[hs];rfl
theorem ev_eval{z:Operand}{x:SV}(hr:RegOK S B a)(h:evO S z=some x):a.eval z=x.conc B:=by
 cases z with
 | tmp t=>exact hr.eval h
 | const v=>injection h with h;subst h;rfl
 | global g=>injection h with h;subst h;rfl
 | func f=>injection h with h;subst h;rfl
theorem zzz(d:Tmp)(off':Nat){T:TypeId}{x ix:Operand}{A:Option Addr}{b off n c sz:Nat}{k:IntKind}{i:Int}(ho:off'=off+i.toNat*sz)(hA:A=some ⟨b,off,none⟩)(h0:0≤i)(h1:i<n)(hT:SlIs P T sz)(kk:sym P ops w0 u0 seq rest (S.set d (.v (.pointer (some ⟨b,off',none⟩)))) u K)(hw:Wants ops o S:=by exact zwf xj)(hd:o.dst=some d:=by kernel_rfl)(hop:o.op=.indexAddr T x ix:=by rfl)(hf:freeB S d=true:=by kernel_rfl)
  (hx:evO S x=some (.v (.slice A n c)):=by rfl) (hi:evO S ix=some (.v (.int k i)):=by rfl):sym P ops w0 u0 seq ((o,p)::rest) S u K:=by
 subst hA ho;refine .inl ⟨by rw[hop];exact(by decide:(0:Nat)≠2),.set (.v (.pointer (some ⟨b,off+i.toNat*sz,none⟩))),⟨zxx hd hf,.inl ⟨(fun t ht=>by cases ht),fun B a w u' hr he hdt=>⟨hw B a hr,?_⟩⟩⟩,?_⟩
 ·have e1:(execOp a.eval o).run P w=(do pure (Next.value (←Instr.indexAt T (a.eval x) (a.eval ix))):Sem Next).run P w:=by unfold execOp;rw[hop]
  rw[e1,ev_eval hr hx,ev_eval hr hi];exact run_val (run_index hT h0 h1)
 show sym P ops w0 u0 seq rest (S.put o.dst (some _)) u K;rw[hd];exact kk
theorem zyk(d:Tmp){T:TypeId}{r:Tmp}{b off:Nat}(v:Value)(hc:u.cell? ⟨b,off,none⟩=some v)(hT:TyIs P T false 1)(kk:sym P ops w0 u0 seq rest (S.set d (.v v)) u K)(hw:Wants ops o S:=by exact zwf xj)(hd:o.dst=some d:=by kernel_rfl)(hop:o.op=.load T (.tmp r):=by rfl)(hf:freeB S d=true:=by kernel_rfl)
  (hr:S.reg r=some (.v (.pointer (some ⟨b,off,none⟩))):=by kernel_rfl):sym P ops w0 u0 seq ((o,p)::rest) S u K:=by
 refine .inl ⟨by rw[hop];exact(by decide:(0:Nat)≠2),.set (.v v),⟨zxx hd hf,.inl ⟨(fun t ht=>by cases ht),fun B a w u' hreg he hdt=>⟨hw B a hreg,?_⟩⟩⟩,?_⟩
 ·have e1:(execOp a.eval o).run P w=(do pure (Next.value (←Instr.loadAt T (a.eval (.tmp r)))):Sem Next).run P w:=by unfold execOp;rw[hop]
  rw[e1,hreg.eval hr];have hcw:w.cell? ⟨b,off,none⟩=some v:=hdt.ext.cell (he.cell hc);refine run_val ?_;show(Instr.loadAt T (.pointer (some ⟨b,off,none⟩))).run P w=.ok v w
  simp[Instr.loadAt,Instr.sureAddr,loadVar,go_sem,(hT w).1,hcw]
 show sym P ops w0 u0 seq rest (S.put o.dst (some _)) u K;rw[hd];exact kk
theorem zyl(d:Tmp){T:TypeId}{r:Tmp}{b off:Nat}(l:List Value)(hc:∀i,i<l.length→u.cell? ⟨b,off+i,none⟩=l[i]?)(hT:TyIs P T true l.length)(kk:sym P ops w0 u0 seq rest (S.set d (.v (.agg l.toArray))) u K)(hw:Wants ops o S:=by exact zwf xj)(hd:o.dst=some d:=by kernel_rfl)(hop:o.op=.load T (.tmp r):=by rfl)(hf:freeB S d=true:=by kernel_rfl)
  (hr:S.reg r=some (.v (.pointer (some ⟨b,off,none⟩))):=by kernel_rfl):sym P ops w0 u0 seq ((o,p)::rest) S u K:=by
 refine .inl ⟨by rw[hop];exact(by decide:(0:Nat)≠2),.set (.v (.agg l.toArray)),⟨zxx hd hf,.inl ⟨(fun t ht=>by cases ht),fun B a w u' hreg he hdt=>⟨hw B a hreg,?_⟩⟩⟩,?_⟩
 ·have e1:(execOp a.eval o).run P w=(do pure (Next.value (←Instr.loadAt T (a.eval (.tmp r)))):Sem Next).run P w:=by unfold execOp;rw[hop]
  rw[e1,hreg.eval hr];refine run_val ?_;show(Instr.loadAt T (.pointer (some ⟨b,off,none⟩))).run P w=.ok (.agg l.toArray) w
  have e:=run_loadCells (P:=P) (w:=w) (b:=b) (l:=l) l.length off #[] 0 (fun j hj=>by
   have h1:=hc j hj;rw[List.getElem?_eq_getElem hj] at h1;rw[Nat.add_zero,Nat.zero_add,List.getElem?_eq_getElem hj];exact hdt.ext.cell (he.cell h1)) (by simp)
  simp only[List.drop_zero,List.take_length] at e
  have e2:(Instr.loadAt T (.pointer (some ⟨b,off,none⟩))).run P w=(do let x ←loadCells ⟨b,off,none⟩ l.length;pure (.agg x):Sem Value).run P w:=by
   simp[Instr.loadAt,Instr.sureAddr,loadVar,go_sem,(hT w).1,(hT w).2]
  rw[e2]
  simp[loadCells,go_sem,e]
 show sym P ops w0 u0 seq rest (S.put o.dst (some _)) u K;rw[hd];exact kk
end
section
variable (P:Program) (w0:Base) (u0:World)
def MP.rnd(R:St→World→Prop)(hR:Mono R)(Q:MP):MP where
 f e S u:=match e with|.normal=>R S u|e=>Q.f e S u
 mono e:=by cases e<;>first|exact hR|exact Q.mono _
def Rnds(c:Code)(Q:MP):Nat→{ R:St→World→Prop // Mono R }
 | 0=>⟨fun _ _=>False,fun _ _ _ _ h=>h⟩
 | n+1=>⟨fun S u=>SW P w0 u0 c S u (MP.rnd (Rnds c Q n).1 (Rnds c Q n).2 Q),SW.mono P w0 u0 c _⟩
def MP.rn(c:Code)(Q:MP)(n:Nat):MP:=MP.rnd (Rnds P w0 u0 c Q n).1 (Rnds P w0 u0 c Q n).2 Q
end
section
variable {P:Program} {w0:Base} {u0:World} {S T:St} {B:Tmp→Nat} {a:Act} {w u u':World} {Q:MP} {c d:Code}
theorem sw_rounds(n:Nat)(h:SW P w0 u0 c S u (MP.rn P w0 u0 c Q n)):SW P w0 u0 (.loop c) S u Q:=by
 have key:∀n S u,(Rnds P w0 u0 c Q n).1 S u→∀B a w u1,Ext u u1→Rep w0 u0 S B a w u1→Code.rounds P c (fun e a' w'=>∃S' B' u'',Rep w0 u0 S' B' a' w' u''∧Q.f e S' u'') n a w:=by
  intro n
  induction n with
  | zero=>intro S u h;exact h.elim
  | succ n ih=>
   intro S u h B a w u1 e1 hr;refine wp_mono (h B a w u1 e1 hr) fun ex a' w' ⟨S',B',u'',k1,k3⟩=>?_
   cases ex with
   | normal=>exact ih S' u'' k3 B' a' w' u'' (Ext.refl _) k1
   | _=>exact⟨S',B',u'',k1,k3⟩
 intro B a w u' e hr;exact wp_loop_rounds (n+1) (key (n+1) S u h B a w u' e hr)
theorem rn_next{n:Nat}(h:SW P w0 u0 c S u (MP.rn P w0 u0 c Q n)):(MP.rn P w0 u0 c Q (n+1)).f .normal S u:=h
section
variable {ops:Array Oper} {o:Oper} {p:List Tmp} {seq:Bool} {rest:List (Oper×List Tmp)} {K:St→World→Prop}
theorem run_rem{T:TypeId}{k:IntKind}{n m:Int}{x y:Operand}(hm:m≠0):(do eqGuard .rem T x y (.int k n) (.int k m);binOp .rem T (.int k n) (.int k m):Sem Value).run P w=.ok (.int k (n.tmod m)) w:=by
 simp[eqGuard,binOp,Op.intDiv,hm,go_sem]
theorem run_quo{T:TypeId}{k:IntKind}{n m:Int}{x y:Operand}(hm:m≠0):(do eqGuard .quo T x y (.int k n) (.int k m);binOp .quo T (.int k n) (.int k m):Sem Value).run P w=.ok (.int k (k.wrap (n.tdiv m))) w:=by
 simp[eqGuard,binOp,Op.intDiv,hm,go_sem]
theorem sy_rem(d:Tmp){T T2:TypeId}{x y:Operand}{k:IntKind}{n m:Int}(v:Int)(hm:m≠0)(hv:n.tmod m=v)(kk:sym P ops w0 u0 seq rest (S.set d (.v (.int k v))) u K)(hw:Wants ops o S:=by exact zwf xj)(hd:o.dst=some d:=by kernel_rfl)(hop:o.op=.binOp .rem T x y T2:=by rfl)(hf:freeB S d=true:=by kernel_rfl)
  (hx:evO S x=some (.v (.int k n)):=by rfl) (hy:evO S y=some (.v (.int k m)):=by rfl):sym P ops w0 u0 seq ((o,p)::rest) S u K:=by
 subst hv;refine .inl ⟨by rw[hop];exact(by decide:(0:Nat)≠2),.set (.v (.int k (n.tmod m))),⟨zxx hd hf,.inl ⟨(fun t ht=>by cases ht),fun B a w u' hr he hdt=>⟨hw B a hr,?_⟩⟩⟩,?_⟩
 ·have e1:(execOp a.eval o).run P w=(do pure (Next.value (←(do eqGuard .rem T x y (a.eval x) (a.eval y);binOp .rem T (a.eval x) (a.eval y)))):Sem Next).run P w:=by unfold execOp;rw[hop]
  rw[e1,ev_eval hr hx,ev_eval hr hy];exact run_val (run_rem hm)
 show sym P ops w0 u0 seq rest (S.put o.dst (some _)) u K;rw[hd];exact kk
theorem sy_quo(d:Tmp){T T2:TypeId}{x y:Operand}{k:IntKind}{n m:Int}(v:Int)(hm:m≠0)(hv:k.wrap (n.tdiv m)=v)(kk:sym P ops w0 u0 seq rest (S.set d (.v (.int k v))) u K)(hw:Wants ops o S:=by exact zwf xj)(hd:o.dst=some d:=by kernel_rfl)(hop:o.op=.binOp .quo T x y T2:=by rfl)(hf:freeB S d=true:=by kernel_rfl)
  (hx:evO S x=some (.v (.int k n)):=by rfl) (hy:evO S y=some (.v (.int k m)):=by rfl):sym P ops w0 u0 seq ((o,p)::rest) S u K:=by
 subst hv;refine .inl ⟨by rw[hop];exact(by decide:(0:Nat)≠2),.set (.v (.int k (k.wrap (n.tdiv m)))),⟨zxx hd hf,.inl ⟨(fun t ht=>by cases ht),fun B a w u' hr he hdt=>⟨hw B a hr,?_⟩⟩⟩,?_⟩
 ·have e1:(execOp a.eval o).run P w=(do pure (Next.value (←(do eqGuard .quo T x y (a.eval x) (a.eval y);binOp .quo T (a.eval x) (a.eval y)))):Sem Next).run P w:=by unfold execOp;rw[hop]
  rw[e1,ev_eval hr hx,ev_eval hr hy];exact run_val (run_quo hm)
 show sym P ops w0 u0 seq rest (S.put o.dst (some _)) u K;rw[hd];exact kk
end
def NoAt(S:St)(pubs:List Tmp):Prop:=∀r x t,S.reg r=some x→x.at? = some t→t∈pubs→r∈pubs
def okAt(pubs:List Tmp)(d:Tmp)(x:SV):Bool:=match x.at? with|none=>true|some t => !pubs.contains t||pubs.contains d
theorem okAt_spec{pubs:List Tmp}{d:Tmp}{x:SV}(h:okAt pubs d x=true){t:Tmp}(ht:x.at? = some t)(hm:t∈pubs):d∈pubs:=by
 unfold okAt at h
 rw[ht] at h
 simp only[Bool.or_eq_true,Bool.not_eq_true',List.contains_iff_mem] at h
 rcases h with h|h
 ·rw[List.contains_iff_mem.2 hm] at h;cases h
 exact h
theorem noAt_of{n:Nat}{l:List (Tmp×SV)}{m:List (Tmp×Vr)}{pubs:List Tmp}(h:(l.all fun q=>okAt pubs q.1 q.2)=true:=by kernel_rfl):NoAt (St.of n l m) pubs:=fun r x t hx ht hm=>
 okAt_spec (List.all_eq_true.1 h _ (look_mem hx)) ht hm
theorem zwl{n:Nat}{args:List Value}{pubs:List Tmp}:NoAt (St.init n args) pubs:=fun r x t hx ht hm=>by
 simp only[St.init,Option.map_eq_some_iff] at hx
 obtain⟨v,h1,rfl⟩:=hx
 cases ht
theorem zyc{d:Tmp}{x:SV}{pubs:List Tmp}(h:NoAt S pubs)(hx:okAt pubs d x=true:=by kernel_rfl):NoAt (S.set d x) pubs:=fun r y t hy ht hm=>by
 by_cases e:r=d
 ·subst e
  simp only[St.set,zxb] at hy
  injection hy with hy
  subst hy;exact okAt_spec hx ht hm
 simp only[St.set,upd_ne _ _ e] at hy
 exact h r y t hy ht hm
theorem zyd{d:Tmp}{V:Vr}{pubs:List Tmp}(h:NoAt S pubs):NoAt (S.new d V) pubs:=fun r y t hy ht hm=>by
 by_cases e:r=d
 ·subst e
  simp only[St.new,zxb] at hy
  injection hy with hy
  subst hy
  injection ht with ht;rw[ht];exact hm
 simp only[St.new,upd_ne _ _ e] at hy
 exact h r y t hy ht hm
theorem zye{d:Tmp}{V:Vr}{n:Nat}{pubs:List Tmp}(h:NoAt S pubs):NoAt (S.lit d V n) pubs:=fun r y t hy ht hm=>by
 by_cases e:r=d
 ·subst e
  simp only[St.lit,zxb] at hy
  injection hy with hy
  subst hy
  injection ht with ht;rw[ht];exact hm
 simp only[St.lit,upd_ne _ _ e] at hy
 exact h r y t hy ht hm
theorem zzx{d:Tmp}{V:Vr}{pubs:List Tmp}(h:NoAt S pubs):NoAt (S.setVar d V) pubs:=fun r y t hy ht hm=>h r y t hy ht hm
theorem zya{p pubs:List Tmp}(h:NoAt S pubs):NoAt (S.unpub p) pubs:=fun r y t hy ht hm=>by
 refine h r y t ?_ ht hm
 simp only[St.unpub] at hy
 cases e:p.contains r with
 | true=>rw[e] at hy;cases hy
 | false=>rw[e] at hy;exact hy
theorem pub_mk{pubs:List Tmp}(h:NoAt S pubs)(hk:(pubs.all fun t=>Nat.blt t S.n)=true:=by kernel_rfl):PubOK S pubs:=by
 refine⟨fun t ht=>?_,h⟩;have:=List.all_eq_true.1 hk t ht;exact Nat.le_of_ble_eq_true this
end
section
variable {ops:Array Oper} {o:Oper} {S:St}
theorem w1(g:Nat)(b:Bool)(t:Tmp)(h:o.guard=some (g,b):=by kernel_rfl)(ht:(ops[g]?).bind (·.dst)=some t:=by kernel_rfl)(hS:S.reg t=some (.v (.bool b)):=by kernel_rfl):Wants ops o S:=wants1 h ht hS
theorem uw(g:Nat)(b c:Bool)(t:Tmp)(h:o.guard=some (g,b):=by kernel_rfl)(ht:(ops[g]?).bind (·.dst)=some t:=by kernel_rfl)(hS:S.reg t=some (.v (.bool c)):=by kernel_rfl)(hne:(c==b)=false:=by kernel_rfl):∀B a,RegOK S B a→Want ops o a false:=unwanted h ht hS hne
end
end Go.Proofs.YtcpnfblekhgmgaaGreat
namespace Go.Proofs.YtcpnfblekhgmgaaGreat.Nt
abbrev B:Nat:=4294967296
def val:List Int→Int
 | []=>0
 | x::l=>x+4294967296*val l
def Dig(l:List Int):Prop:=∀x∈l,0≤x∧x<4294967296
def pw:Nat→Int
 | 0=>1
 | i+1=>4294967296*pw i
theorem pw_pos(i:Nat):0<pw i:=by
 induction i with
 | zero=>simp[pw]
 | succ i ih=>simp only[pw];omega
theorem pw_add(i j:Nat):pw (i+j)=pw i*pw j:=by
 induction i with
 | zero=>simp[pw]
 | succ i ih=>rw[show i+1+j=i+j+1 by omega,pw,pw,ih,Int.mul_assoc]
theorem pw_mono{i j:Nat}(h:i≤j):pw i≤pw j:=by
 obtain⟨k,rfl⟩:∃k,j=i+k:=⟨j-i,by omega⟩
 rw[pw_add];have h1:=pw_pos i;have h2:=pw_pos k;have:pw i*1≤pw i*pw k:=Int.mul_le_mul_of_nonneg_left xq xq
 omega
theorem Dig.nil:Dig []:=fun x hx=>by simp at hx
theorem Dig.cons{x:Int}{l:List Int}(hx:0≤x∧x<4294967296)(h:Dig l):Dig (x::l):=by
 intro y hy
 rcases List.mem_cons.1 hy with rfl|hy
 ·exact hx
 exact h y hy
theorem Dig.head{x:Int}{l:List Int}(h:Dig (x::l)):0≤x∧x<4294967296:=h x (by simp)
theorem Dig.tail{x:Int}{l:List Int}(h:Dig (x::l)):Dig l:=fun y hy=>h y (by simp[hy])
theorem Dig.at{l:List Int}(h:Dig l)(i:Nat):0≤l[i]?.getD 0∧l[i]?.getD 0<4294967296:=by
 rcases Nat.lt_or_ge i l.length with hi|hi
 ·rw[List.getElem?_eq_getElem hi];exact h _ (List.getElem_mem hi)
 rw[List.getElem?_eq_none hi];simp
theorem Dig.take{l:List Int}(h:Dig l)(n:Nat):Dig (l.take n):=fun x hx=>h x (List.mem_of_mem_take hx)
theorem Dig.drop{l:List Int}(h:Dig l)(n:Nat):Dig (l.drop n):=fun x hx=>h x (List.mem_of_mem_drop hx)
theorem Dig.append{l m:List Int}(h:Dig l)(k:Dig m):Dig (l++m):=fun x hx=>by
 rcases List.mem_append.1 hx with hx|hx
 ·exact h x hx
 exact k x hx
theorem Dig.set{l:List Int}(h:Dig l)(i:Nat){x:Int}(hx:0≤x∧x<4294967296):Dig (l.set i x):=fun y hy=>by
 rcases List.mem_or_eq_of_mem_set hy with hy|rfl
 ·exact h y hy
 exact hx
theorem Dig.repl(n:Nat):Dig (List.replicate n 0):=fun x hx=>by
 rw[List.mem_replicate] at hx;omega
theorem zxc{l:List Int}(h:Dig l):0≤val l:=by
 induction l with
 | nil=>simp[val]
 | cons x l ih=>have:=h.head;have:=ih h.tail;simp only[val];omega
theorem val_lt{l:List Int}(h:Dig l):val l<pw l.length:=by
 induction l with
 | nil=>simp[val,pw]
 | cons x l ih=>have:=h.head;have:=ih h.tail;simp only[val,List.length_cons,pw];omega
theorem val_append(l m:List Int):val (l++m)=val l+pw l.length*val m:=by
 induction l with
 | nil=>simp[val,pw]
 | cons x l ih=>simp only[List.cons_append,val,List.length_cons,pw,ih];rw[Int.mul_add,←Int.mul_assoc,Int.add_assoc]
theorem val_repl(n:Nat):val (List.replicate n 0)=0:=by
 induction n with
 | zero=>rfl
 | succ n ih=>rw[List.replicate_succ,val,ih];rfl
def valTo(l:List Int)(i:Nat):Int:=val (l.take i)
theorem zxe(l:List Int):valTo l 0=0:=by simp[valTo,val]
theorem zyf(l:List Int)(i:Nat):valTo l (i+1)=valTo l i+pw i*l[i]?.getD 0:=by
 unfold valTo
 rcases Nat.lt_or_ge i l.length with hi|hi
 ·rw[List.take_succ_eq_append_getElem hi,val_append,List.getElem?_eq_getElem hi]
  simp[val,Nat.min_eq_left (Nat.le_of_lt hi)]
 rw[List.getElem?_eq_none hi,List.take_of_length_le xq,List.take_of_length_le hi];simp
theorem zyg(l:List Int){n:Nat}(h:l.length≤n):valTo l n=val l:=by unfold valTo;rw[List.take_of_length_le h]
theorem valTo_set_lt(l:List Int){i j:Nat}(x:Int)(h:i≤j):valTo (l.set j x) i=valTo l i:=by
 unfold valTo
 rw[List.take_set]
 congr 1
 exact List.set_eq_of_length_le yw
theorem zxl(l:List Int){i:Nat}(x:Int)(h:i<l.length):valTo (l.set i x) (i+1)=valTo l i+pw i*x:=by
 rw[zyf,valTo_set_lt l x qyl]
 simp[h]
theorem zyy{l:List Int}(h:Dig l)(i:Nat):0≤valTo l i:=zxc (h.take i)
theorem zxr{l:List Int}(h:Dig l)(i:Nat):valTo l i<pw i:=by
 have h1:=val_lt (h.take i);have:pw (l.take i).length≤pw i:=pw_mono yw
 unfold valTo;omega
theorem val_split(l:List Int)(i:Nat)(h:i≤l.length):val l=valTo l i+pw i*val (l.drop i):=by
 unfold valTo
 conv=>lhs;rw[←List.take_append_drop i l]
 rw[val_append];simp[Nat.min_eq_left h]
def strip(l:List Int):List Int:=
 match l with
 | []=>[]
 | x::l=>if strip l=[]∧x=0 then [] else x::strip l
def Norm(l:List Int):Prop:=strip l=l
theorem zwn(l:List Int):val (strip l)=val l:=by
 induction l with
 | nil=>rfl
 | cons x l ih=>
  rw[strip]
  split
  ·rename_i h;simp only[val];rw[←ih,h.1,h.2];simp[val]
  simp only[val];rw[ih]
theorem strip_dig{l:List Int}(h:Dig l):Dig (strip l):=by
 induction l with
 | nil=>exact Dig.nil
 | cons x l ih=>
  rw[strip]
  split
  ·exact Dig.nil
  exact Dig.cons h.head (ih h.tail)
theorem strip_strip(l:List Int):strip (strip l)=strip l:=by
 induction l with
 | nil=>rfl
 | cons x l ih=>
  rw[strip]
  split
  ·rfl
  rename_i h
  rw[strip,ih,if_neg h]
theorem strip_norm(l:List Int):Norm (strip l):=strip_strip l
theorem zyh(l:List Int):(strip l).length≤l.length:=by
 induction l with
 | nil=>exact Nat.le_refl _
 | cons x l ih=>
  rw[strip]
  split
  ·simp
  simp;omega
theorem strip_take(l:List Int):strip l=l.take (strip l).length:=by
 induction l with
 | nil=>rfl
 | cons x l ih=>
  rw[strip]
  split
  ·rfl
  simp;exact ih
def digits(v:Nat):List Int:=if v=0 then [] else((v%4294967296:Nat):Int)::digits (v/4294967296)
termination_by v
decreasing_by omega
theorem zxa:digits 0=[]:=by rw[digits];simp
theorem zyj(v:Nat):Dig (digits v):=by
 induction v using Nat.strongRecOn with
 | ind v ih=>
  rw[digits]
  split
  ·exact Dig.nil
  exact Dig.cons xq (ih _ xq)
theorem zyi(v:Nat):val (digits v)=v:=by
 induction v using Nat.strongRecOn with
 | ind v ih=>
  rw[digits]
  split
  ·rename_i h;rw[h];rfl
  simp only[val];rw[ih _ xq];omega
theorem zxm(v:Nat):Norm (digits v):=by
 unfold Norm
 induction v using Nat.strongRecOn with
 | ind v ih=>
  rw[digits]
  split
  ·rfl
  rename_i h
  rw[strip,ih _ xq,if_neg];rintro ⟨h1,h2⟩;have:=zyi (v/4294967296);rw[h1] at this
  simp[val] at this
  omega
theorem norm_tail{x:Int}{l:List Int}(h:Norm (x::l)):Norm l:=by
 unfold Norm at h ⊢
 rw[strip] at h
 split at h
 ·cases h
 injection h
theorem norm_eq{l:List Int}(hd:Dig l)(hn:Norm l):l=digits (val l).toNat:=by
 induction l with
 | nil=>simp[val,zxa]
 | cons x l ih=>
  have h0:=hd.head;have h1:=zxc hd.tail;have e:=ih hd.tail (norm_tail hn)
  have hne:¬(x+4294967296*val l).toNat=0:=by
   intro h;have hx:x=0:=by omega
   have hv:val l=0:=by omega
   have hl:l=[]:=by rw[e,hv];exact zxa
   unfold Norm at hn
   rw[hl,hx] at hn
   simp[strip] at hn
  simp only[val]
  rw[digits,if_neg hne];have a1:(((x+4294967296*val l).toNat%4294967296:Nat):Int)=x:=by omega
  have a2:(x+4294967296*val l).toNat/4294967296=(val l).toNat:=by omega
  rw[a1,a2,←e]
theorem zxs{l:List Int}(hd:Dig l):strip l=digits (val l).toNat:=by
 rw[norm_eq (strip_dig hd) (strip_norm l),zwn]
theorem digits_length_le{v n:Nat}(h:(v:Int)<pw n):(digits v).length≤n:=by
 induction n generalizing v with
 | zero=>simp[pw] at h;have:v=0:=by omega
         rw[this,zxa];exact Nat.le_refl _
 | succ n ih=>
  rw[digits]
  split
  ·simp
  simp only[List.length_cons]
  have:=ih (v:=v/4294967296) (by rw[pw] at h;omega)
  omega
theorem zwo{v:Nat}(h:0<v):0<(digits v).length:=by rw[digits,if_neg xq];simp
theorem digits_length_gt{v n:Nat}(h:pw n≤(v:Int)):n<(digits v).length:=by
 rcases Nat.lt_or_ge n (digits v).length with h'|h'
 ·exact h'
 have h1:=val_lt (zyj v);rw[zyi] at h1;have:=pw_mono h'
 omega
end Go.Proofs.YtcpnfblekhgmgaaGreat.Nt
namespace Go.Proofs.YtcpnfblekhgmgaaGreat
open Nt
open Go.RowKit
namespace Nt
theorem strip_snoc_zero(l:List Int):strip (l++[0])=strip l:=by
 induction l with
 | nil=>simp[strip]
 | cons x l ih=>rw[List.cons_append,strip,strip,ih]
theorem strip_snoc_ne(l:List Int){x:Int}(h:x≠0):strip (l++[x])=l++[x]:=by
 induction l with
 | nil=>simp[strip,h]
 | cons y l ih=>rw[List.cons_append,strip,ih,if_neg (by simp)]
theorem take_snoc(l:List Int)(k:Nat)(h:k<l.length):l.take (k+1)=l.take k++[l[k]?.getD 0]:=by
 rw[List.take_succ_eq_append_getElem h,List.getElem?_eq_getElem h];rfl
def cmpS(x y:Int):Int:=if x<y then -1 else if x=y then 0 else 1
end Nt
theorem SlR.upto{k:IntKind}{w:World}{A:Option Addr}{n c:Nat}{l:List Int}(h:SlR k w A n c l){m:Nat}(hm:m≤n):SlR k w A m c (l.take m):=by
 obtain⟨h1,h2,h3,h4⟩:=h;refine⟨by simp;omega,by omega,h3,fun hp=>?_⟩;obtain⟨b,o,rfl,hlt,hc⟩:=h4 xq;exact⟨b,o,rfl,hlt,fun i hi=>by rw[hc i xq,List.getElem?_take_of_lt hi]⟩
theorem zwj(A:Option Addr)(n c:Nat)(l:List Int)(w:World)(h:SlR .u32 w A n c l):
  qyc 169 #[.slice A n c] w fun e w'=>e=.returned (.slice A (strip l).length c)∧w=w':=by
 have hnc:=h.2.1;have hnm:c≤maxLen:=h.2.2.1
 unfold maxLen at hnm
 have hln:Hid (l.length=n):=h.1
 go_enter Tryz.func169,Tryz.ntmps169
 go_wp2
 go_loop [3] (fun x=>∃k:Nat,k≤n∧x=.int .i64 k∧Hid (strip l=strip (l.take k))) (fun x=>(intOf x).toNat)
 case atStart=>exact⟨n,Nat.le_refl _,rfl,by show _=_;rw[List.take_of_length_le (by have:=hln.out;omega)]⟩
 case round=>
  obtain⟨k,hk,rfl,hs⟩:=hrel
  rcases k with _|k
  ·have hfin:Hid ((strip l).length=0):=by have:=hs.out;show _=_;rw[this];rfl
   clear hs
   go_wp2
   go_ret
   exact⟨by rw[hfin.out];rfl,rfl⟩
  obtain⟨b,o,rfl,_,hc⟩:=h.pos (i:=k) xq;have hsn:=Nt.take_snoc l k (by have:=hln.out;omega)
  by_cases h0:l[k]?.getD 0=0
  ·have hs':Hid (strip l=strip (l.take k)):=by
    have:=hs.out;show _=_;rw[this,hsn,h0,strip_snoc_zero]
   rw[h0] at hc;clear hs hsn h0
   go_wp2
   go_round
   case rel=>exact⟨k,by omega,by go_num,hs'⟩
   case measure=>simp[intOf]
  have hfin:Hid ((strip l).length=k+1):=by
   have:=hs.out;show _=_;rw[this,hsn,strip_snoc_ne _ h0,←hsn]
   simp;have:=hln.out;omega
  have hb:(l[k]?.getD 0==0)=false:=by simpa using h0
  clear hs hsn h0
  go_wp2
  go_ret
  exact⟨by rw[hfin.out];rfl,rfl⟩
theorem cmpInt_any(x y:Int)(w:World):qyc 192 #[.int .i64 x,.int .i64 y] w fun e w'=>e=.returned (.int .i64 (cmpS x y))∧w'=w:=by
 unfold cmpS
 by_cases h1:x<y
 ·rw[if_pos h1]
  go_enter Tryz.func192,Tryz.ntmps192
  go_wp2
  go_ret
  exact⟨rfl,rfl⟩
 by_cases h2:y<x
 ·have h3:¬x=y:=by omega
  rw[if_neg h1,if_neg h3];clear h3
  go_enter Tryz.func192,Tryz.ntmps192
  go_wp2
  go_ret
  exact⟨rfl,rfl⟩
 obtain rfl:x=y:=by omega
 rw[if_neg h1,if_pos rfl]
 go_enter Tryz.func192,Tryz.ntmps192
 go_wp2
 go_ret
 exact⟨rfl,rfl⟩
theorem cmpU32_any(x y:Int)(w:World):qyc 193 #[.int .u32 x,.int .u32 y] w fun e w'=>e=.returned (.int .i64 (cmpS x y))∧w'=w:=by
 unfold cmpS
 by_cases h1:x<y
 ·rw[if_pos h1]
  go_enter Tryz.func193,Tryz.ntmps193
  go_wp2
  go_ret
  exact⟨rfl,rfl⟩
 by_cases h2:y<x
 ·have h3:¬x=y:=by omega
  rw[if_neg h1,if_neg h3];clear h3
  go_enter Tryz.func193,Tryz.ntmps193
  go_wp2
  go_ret
  exact⟨rfl,rfl⟩
 obtain rfl:x=y:=by omega
 rw[if_neg h1,if_pos rfl]
 go_enter Tryz.func193,Tryz.ntmps193
 go_wp2
 go_ret
 exact⟨rfl,rfl⟩
namespace Nt
theorem len_lt{x y:List Int}(hx:Dig x)(hy:Dig y)(ny:Norm y)(h:x.length<y.length):val x<val y:=by
 have h1:=val_lt hx;have h2:=norm_eq hy ny
 rcases Int.lt_or_le (val y) (pw x.length) with h3|h3
 ·have h4:=digits_length_le (v:=(val y).toNat) (n:=x.length) (by have:=zxc hy;omega);rw[←h2] at h4
  omega
 omega
theorem val_at(l:List Int)(i:Nat)(h:i<l.length):val l=valTo l i+pw i*(l[i]?.getD 0+4294967296*val (l.drop (i+1))):=by
 rw[val_split l i xq,List.drop_eq_getElem_cons h,val,List.getElem?_eq_getElem h];rfl
theorem cmp_at{x y:List Int}(hx:Dig x)(hy:Dig y)(i:Nat)(h1:i<x.length)(h2:i<y.length)(hd:x.drop (i+1)=y.drop (i+1))(hne:x[i]?.getD 0≠y[i]?.getD 0):cmpS (x[i]?.getD 0) (y[i]?.getD 0)=cmpS (val x) (val y):=by
 have e1:=val_at x i h1;have e2:=val_at y i h2;have a1:=zyy hx i;have a2:=zxr hx i;have b1:=zyy hy i;have b2:=zxr hy i;rw[hd] at e1;generalize val (y.drop (i+1))=D at *;generalize x[i]?.getD 0=p at *;generalize y[i]?.getD 0=q at *;have hp:=pw_pos i;rw[Int.mul_add] at e1 e2
 unfold cmpS
 rcases Int.lt_or_lt_of_ne hne with h|h
 ·have:pw i*(p+1)≤pw i*q:=Int.mul_le_mul_of_nonneg_left xq xq;rw[Int.mul_add] at this;rw[if_pos h,if_pos xq]
 have:pw i*(q+1)≤pw i*p:=Int.mul_le_mul_of_nonneg_left xq xq;rw[Int.mul_add] at this;rw[if_neg xq,if_neg xq,if_neg xq,if_neg xq]
end Nt
theorem Compare_any(A B:Option Addr)(n c m d:Nat)(a b:List Int)(w:World)(ha:SlR .u32 w A n c a)(hb:SlR .u32 w B m d b)(da:Dig a)(db:Dig b):
  qyc 160 #[.slice A n c,.slice B m d] w fun e w'=>e=.returned (.int .i64 (cmpS (Nt.val a) (Nt.val b)))∧∃k,w'=w.drewN k:=by
 have hx:=ha.upto (m:=(strip a).length) (by rw[←ha.1];exact zyh a);have hy:=hb.upto (m:=(strip b).length) (by rw[←hb.1];exact zyh b);rw[←strip_take] at hx hy;have hcm:c≤maxLen:=ha.2.2.1;have hdm:d≤maxLen:=hb.2.2.1
 unfold maxLen at hcm hdm
 have hxl:=hx.2.1;have hyl:=hy.2.1;have ev:Hid (cmpS (Nt.val a) (Nt.val b)=cmpS (Nt.val (strip a)) (Nt.val (strip b))):=by show _=_;rw[zwn,zwn]
 have dx:=Lib.hid (strip_dig da);have dy:=Lib.hid (strip_dig db);have nx:=Lib.hid (strip_norm a);have ny:=Lib.hid (strip_norm b)
 go_enter Tryz.func160,Tryz.ntmps160
 go_wp2_with fail
 refine(zwj _ _ _ _ _ ha).mono ?_;rintro e w1 ⟨rfl,rfl⟩
 go_wp2_with fail
 refine(zwj _ _ _ _ _ hb).mono ?_;rintro e w1 ⟨rfl,rfl⟩;generalize strip a=x at *;generalize strip b=y at *;clear ha hb da db
 by_cases hlen:x.length=y.length
 ·have aa:((x.length:Int) != (y.length:Int))=false:=by rw[hlen];simp
  obtain⟨N,hN⟩:∃N,N=y.length:=⟨_,rfl⟩
  have hNx:Hid (x.length=N):=by show _=_;omega
  have hNy:Hid (y.length=N):=by show _=_;omega
  rw[hlen] at hx hxl aa ⊢;rw[←hN] at hx hy hxl hyl aa ⊢;clear hlen hN aa
  go_wp2
  go_loopw [7] (fun v wr=>∃k:Nat,k≤N∧v=.int .i64 ((k:Int)-1)∧Hid (x.drop k=y.drop k)∧∃q,wr=w.drewN q) (fun v _=>(intOf v+1).toNat)
  case atStart=>exact⟨N,Nat.le_refl _,rfl,by show _=_;rw[List.drop_of_length_le (by have:=hNx.out;omega),List.drop_of_length_le (by have:=hNy.out;omega)],0,rfl⟩
  case round=>
   obtain⟨k,hk,rfl,hdr,q,rfl⟩:=hrel
   rcases k with _|k
   ·have hfin:Hid (cmpS (Nt.val a) (Nt.val b)=0):=by
     have h1:=hdr.out;have h2:=ev.out
     simp only[List.drop_zero] at h1
     show _=_;rw[h2,h1];simp[cmpS]
    clear hdr
    go_wp2
    go_ret
    exact⟨by rw[hfin.out];rfl,q,rfl⟩
   obtain⟨b1,o1,rfl,_,ab⟩:=hx.pos (i:=k) xq;obtain⟨b2,o2,rfl,_,ac⟩:=hy.pos (i:=k) xq;have hkl:(k:Int)<N:=by omega
   by_cases heq:x[k]?.getD 0=y[k]?.getD 0
   ·have hdr':Hid (x.drop k=y.drop k):=by
     have h1:=hdr.out;have e1:=hNx.out;have e2:=hNy.out;rw[List.getElem?_eq_getElem xq,List.getElem?_eq_getElem xq] at heq;show _=_;rw[List.drop_eq_getElem_cons xq,List.drop_eq_getElem_cons (i:=k) (l:=y) xq,h1]
     congr 1
    rw[heq] at ab;clear heq hdr
    go_wp2
    go_quiet (fail)
    go_wp2
    go_roundw
    case rel=>exact⟨k,by omega,by go_num,hdr',q+nq,by first|rfl|rw[World.drewN_drewN]⟩
    case measure=>simp[intOf]
   have hfin:Hid (cmpS (x[k]?.getD 0) (y[k]?.getD 0)=cmpS (Nt.val a) (Nt.val b)):=by
    show _=_;rw[ev.out];exact cmp_at dx.out dy.out k (by have:=hNx.out;omega) (by have:=hNy.out;omega) hdr.out heq
   have aa:(x[k]?.getD 0 != y[k]?.getD 0)=true:=by simpa using heq
   have hb1:(x[k]?.getD 0==y[k]?.getD 0)=false:=by simpa using heq
   clear heq hdr
   go_wp2
   go_quiet (fail)
   go_wp2
   obtain⟨wq,hwq⟩:∃wq,wq=w.drewN (q+nq):=⟨_,rfl⟩
   have hc1':wq.cell? ⟨b1,o1+k,none⟩=some (.int .u32 (x[k]?.getD 0)):=by rw[hwq];exact ab
   have hc2':wq.cell? ⟨b2,o2+k,none⟩=some (.int .u32 (y[k]?.getD 0)):=by rw[hwq];exact ac
   have Hwq:=Lib.hid hwq;rw[World.drewN_drewN,←hwq];clear hwq ab ac
   go_quiet ((go_at_call 193;exact Calls.quiet_of_same (cmpU32_any _ _ _)))
   go_wp2
   go_ret
   exact⟨by rw[←hfin.out];rfl,_,by rw[Hwq.out,World.drewN_drewN]⟩
 have aa:((x.length:Int) != (y.length:Int))=true:=by rw[bne_iff_ne];omega
 have hfin:Hid (cmpS (x.length:Int) (y.length:Int)=cmpS (Nt.val a) (Nt.val b)):=by
  show _=_;rw[ev.out]
  unfold cmpS
  rcases Nat.lt_or_gt_of_ne hlen with h|h
  ·have:=len_lt dx.out dy.out ny.out h;rw[if_pos xq,if_pos this]
  have:=len_lt dy.out dx.out nx.out h;rw[if_neg xq,if_neg xq,if_neg xq,if_neg xq]
 clear hlen
 go_wp2_with fail
 refine(cmpInt_any _ _ _).mono ?_;rintro e w1 ⟨rfl,rfl⟩
 go_wp2
 go_ret
 exact⟨by rw[←hfin.out];rfl,0,rfl⟩
theorem zxj:(Tryz.prog.info? 77).map (fun i=>(i.zero,i.size,i.bytes))=some (some (.int .u32 0),1,4):=by kernel_rfl
def NatF(w0 w:World)(A:Option Addr)(n c v:Nat):Prop:=n=(digits v).length∧SlR .u32 w A n c (digits v)∧(0<n→∃a,A=some a∧w0.heap.size≤a.block∧TyB w a.block 77)
namespace Nt
theorem add_step{S x y:List Int}{i:Nat}{c t:Int}(hi:i<S.length)(h:valTo S i+c*pw i=valTo x i+valTo y i)(ht:t=x[i]?.getD 0+c+y[i]?.getD 0):
  valTo (S.set i (t%4294967296)) (i+1)+(t/4294967296)*pw (i+1)=valTo x (i+1)+valTo y (i+1):=by
 rw[zxl S _ hi,zyf,zyf,pw];have e:=Int.mul_ediv_add_emod t 4294967296;generalize t%4294967296=r at *;generalize t/4294967296=q at *
 grind
end Nt
theorem zwb{w0 w:World}{g m:Nat}{l:List Int}(hk:KBlk .u32 w g 77 l)(hl:l.length=m)(hm:m≤maxLen)(hd:Dig l)(hg:w0.heap.size≤g):NatF w0 w (some ⟨g,0,none⟩) (strip l).length m (Nt.val l).toNat:=by
 have e:=zxs hd;refine⟨by rw[e],?_,fun _=>⟨_,rfl,hg,hk.ty⟩⟩;rw[←e];have h:=hk.slr (n:=(strip l).length) (c:=m) (zyh l) (by rw[←hl];exact zyh l) hm
 rwa [←strip_take] at h
theorem Add_any(A B:Option Addr)(n c m d:Nat)(a b:List Int)(w:World)(ha:SlR .u32 w A n c a)(hb:SlR .u32 w B m d b)(da:Dig a)(db:Dig b)(hn:n≤1000000000)(hm:m≤1000000000):
  qyc 167 #[.slice A n c,.slice B m d] w fun e w'=>∃A' n' c',e=.returned (.slice A' n' c')∧NatF w w' A' n' c' (Nt.val a+Nt.val b).toNat∧Below w.heap.size w w':=by
 have lx:(strip a).length≤n:=by rw[←ha.1];exact zyh a
 have ly:(strip b).length≤m:=by rw[←hb.1];exact zyh b
 have hx:=ha.upto (m:=(strip a).length) lx;have hy:=hb.upto (m:=(strip b).length) ly;rw[←strip_take] at hx hy;have ev:Hid (Nt.val a+Nt.val b=Nt.val (strip a)+Nt.val (strip b)):=by show _=_;rw[zwn,zwn]
 have dx:=Lib.hid (strip_dig da);have dy:=Lib.hid (strip_dig db)
 go_enter Tryz.func167,Tryz.ntmps167
 go_wp2_with fail
 refine(zwj _ _ _ _ _ ha).mono ?_;rintro e w1 ⟨rfl,rfl⟩
 go_wp2_with fail
 refine(zwj _ _ _ _ _ hb).mono ?_;rintro e w1 ⟨rfl,rfl⟩;obtain⟨X,hX⟩:∃X,X=(strip a).length:=⟨_,rfl⟩
 obtain⟨Y,hY⟩:∃Y,Y=(strip b).length:=⟨_,rfl⟩
 have HX:Hid ((strip a).length=X):=hX.symm;have HY:Hid ((strip b).length=Y):=hY.symm;rw[←hX] at hx lx ⊢;rw[←hY] at hy ly ⊢;generalize strip a=x at *;generalize strip b=y at *;clear ha hb da db hX hY
 by_cases hlt:X<Y
 ·have hlt':(X:Int)<Y:=by omega
  go_wp2_with (at_make;refine zxg _ rfl (.tmp 25) (.tmp 25) _ rfl 77 .u32 4 Tryz.underlying31 zxj _ _ _ _ (Y+1) rfl rfl ?L ?C ?b2 ?b3 ?_)
  case L=>omega
  case C=>omega
  case b2=>omega
  case b3=>unfold maxLen;omega
  intro w2 aa ab ac;obtain⟨g,hg⟩:∃g,g=w.heap.size:=⟨_,rfl⟩
  have hgw:w.heap.size≤g:=by omega
  rw[←hg] at aa ⊢;clear ac hg
  go_wp2
  go_loopw [8,29] (fun cv iv wr=>∃(i:Nat) (cy:Int) (S:List Int),i≤Y∧0≤cy∧cy≤1∧cv=.int .u64 cy∧iv=.int .i64 i∧KBlk .u32 wr g 77 S∧Hid (S.length=Y+1)∧Hid (Dig S)∧Hid (valTo S i+cy*pw i=valTo y i+valTo x i)∧Below w.heap.size w wr) (fun _ iv _=>Y-(intOf iv).toNat)
  case atStart=>exact⟨0,0,_,by omega,by omega,by omega,rfl,rfl,aa,by simp[Hid],Dig.repl _,by simp[Hid,zxe],ab⟩
  case round=>
   obtain⟨i,cy,S,hi,c0,c1,rfl,rfl,hk,hS,dS,hv,hbr⟩:=hrel;clear aa ab
   by_cases hiX:i<Y
   ·obtain⟨b1,o1,rfl,_,ae⟩:=(hy.below hbr).pos hiX;have q1:=dy.out.at i;have q1a:=q1.1;have q1b:=q1.2;have hc3:=hk.cell (i:=i) (by have:=hS.out;omega);have hf3:=hk.frozen i;clear q1
    by_cases hiY:i<X
    ·obtain⟨b2,o2,rfl,_,ad⟩:=(hx.below hbr).pos hiY;have q2:=dx.out.at i;have q2a:=q2.1;have q2b:=q2.2;clear q2;have hiY':(i:Int)<X:=by omega
     have Hst:=Lib.hid (add_step (t:=y[i]?.getD 0+cy+x[i]?.getD 0) (by have:=hS.out;omega) hv.out rfl)
     go_wp2
     go_roundw
     case rel=>exact⟨i+1,_,_,by omega,by omega,by omega,rfl,by go_num,hk.set i _,by have:=hS.out;show _=_;simpa using this,dS.out.set i xq,Hst.out,hbr.setCell (p:=⟨g,i,none⟩) hgw _⟩
     case measure=>simp[intOf];omega
    have hiY':¬(i:Int)<X:=by omega
    have e0:x[i]?.getD 0=0:=by rw[List.getElem?_eq_none (by have:=HX.out;omega)];rfl
    have Hst:=Lib.hid (add_step (t:=y[i]?.getD 0+cy) (by have:=hS.out;omega) hv.out (by rw[e0];omega));clear e0
    go_wp2
    go_roundw
    case rel=>exact⟨i+1,_,_,by omega,by omega,by omega,rfl,by go_num,hk.set i _,by have:=hS.out;show _=_;simpa using this,dS.out.set i xq,Hst.out,hbr.setCell (p:=⟨g,i,none⟩) hgw _⟩
    case measure=>simp[intOf];omega
   obtain rfl:i=Y:=by omega
   have hc3:=hk.cell (i:=i) (by have:=hS.out;omega);have hf3:=hk.frozen i;have hks:=hk.set i cy;have hds:Dig (S.set i cy):=dS.out.set i xq;have hls:(S.set i cy).length=i+1:=by have:=hS.out;simpa using this
   have hval:Nt.val (S.set i cy)=Nt.val a+Nt.val b:=by
    have h1:=hv.out;rw[←zyg (S.set i cy) (n:=i+1) xq,zxl S cy (by have:=hS.out;omega),ev.out,Int.mul_comm,h1,zyg y (by have:=HY.out;omega),zyg x (by have:=HX.out;omega)]
    try omega
   have hsl:=hks.slr_all (n:=i+1) (c:=i+1) hls xq yv;have hfr:=zwb (w0:=w) hks hls yv hds hgw;rw[hval] at hfr;have HF:=Lib.hid hfr;clear hval hfr hks hds hls
   go_wp2_with fail
   refine(zwj _ _ _ _ _ hsl).mono ?_;rintro e w1 ⟨rfl,rfl⟩
   go_wp2
   go_ret
   exact⟨_,_,_,rfl,HF.out,hbr.setCell (p:=⟨g,i,none⟩) hgw _⟩
 have hlt':¬(X:Int)<Y:=by omega
 go_wp2_with (at_make;refine zxg _ rfl (.tmp 25) (.tmp 25) _ rfl 77 .u32 4 Tryz.underlying31 zxj _ _ _ _ (X+1) rfl rfl ?L ?C ?b2 ?b3 ?_)
 case L=>omega
 case C=>omega
 case b2=>omega
 case b3=>unfold maxLen;omega
 intro w2 aa ab ac;obtain⟨g,hg⟩:∃g,g=w.heap.size:=⟨_,rfl⟩
 have hgw:w.heap.size≤g:=by omega
 rw[←hg] at aa ⊢;clear ac hg
 go_wp2
 go_loopw [8,29] (fun cv iv wr=>∃(i:Nat) (cy:Int) (S:List Int),i≤X∧0≤cy∧cy≤1∧cv=.int .u64 cy∧iv=.int .i64 i∧KBlk .u32 wr g 77 S∧Hid (S.length=X+1)∧Hid (Dig S)∧Hid (valTo S i+cy*pw i=valTo x i+valTo y i)∧Below w.heap.size w wr) (fun _ iv _=>X-(intOf iv).toNat)
 case atStart=>exact⟨0,0,_,by omega,by omega,by omega,rfl,rfl,aa,by simp[Hid],Dig.repl _,by simp[Hid,zxe],ab⟩
 case round=>
  obtain⟨i,cy,S,hi,c0,c1,rfl,rfl,hk,hS,dS,hv,hbr⟩:=hrel;clear aa ab
  by_cases hiX:i<X
  ·obtain⟨b1,o1,rfl,_,ae⟩:=(hx.below hbr).pos hiX;have q1:=dx.out.at i;have q1a:=q1.1;have q1b:=q1.2;have hc3:=hk.cell (i:=i) (by have:=hS.out;omega);have hf3:=hk.frozen i;clear q1
   by_cases hiY:i<Y
   ·obtain⟨b2,o2,rfl,_,ad⟩:=(hy.below hbr).pos hiY;have q2:=dy.out.at i;have q2a:=q2.1;have q2b:=q2.2;clear q2;have hiY':(i:Int)<Y:=by omega
    have Hst:=Lib.hid (add_step (t:=x[i]?.getD 0+cy+y[i]?.getD 0) (by have:=hS.out;omega) hv.out rfl)
    go_wp2
    go_roundw
    case rel=>exact⟨i+1,_,_,by omega,by omega,by omega,rfl,by go_num,hk.set i _,by have:=hS.out;show _=_;simpa using this,dS.out.set i xq,Hst.out,hbr.setCell (p:=⟨g,i,none⟩) hgw _⟩
    case measure=>simp[intOf];omega
   have hiY':¬(i:Int)<Y:=by omega
   have e0:y[i]?.getD 0=0:=by rw[List.getElem?_eq_none (by have:=HY.out;omega)];rfl
   have Hst:=Lib.hid (add_step (t:=x[i]?.getD 0+cy) (by have:=hS.out;omega) hv.out (by rw[e0];omega));clear e0
   go_wp2
   go_roundw
   case rel=>exact⟨i+1,_,_,by omega,by omega,by omega,rfl,by go_num,hk.set i _,by have:=hS.out;show _=_;simpa using this,dS.out.set i xq,Hst.out,hbr.setCell (p:=⟨g,i,none⟩) hgw _⟩
   case measure=>simp[intOf];omega
  obtain rfl:i=X:=by omega
  have hc3:=hk.cell (i:=i) (by have:=hS.out;omega);have hf3:=hk.frozen i;have hks:=hk.set i cy;have hds:Dig (S.set i cy):=dS.out.set i xq;have hls:(S.set i cy).length=i+1:=by have:=hS.out;simpa using this
  have hval:Nt.val (S.set i cy)=Nt.val a+Nt.val b:=by
   have h1:=hv.out;rw[←zyg (S.set i cy) (n:=i+1) xq,zxl S cy (by have:=hS.out;omega),ev.out,Int.mul_comm,h1,zyg x (by have:=HX.out;omega),zyg y (by have:=HY.out;omega)]
   try omega
  have hsl:=hks.slr_all (n:=i+1) (c:=i+1) hls xq yv;have hfr:=zwb (w0:=w) hks hls yv hds hgw;rw[hval] at hfr;have HF:=Lib.hid hfr;clear hval hfr hks hds hls
  go_wp2_with fail
  refine(zwj _ _ _ _ _ hsl).mono ?_;rintro e w1 ⟨rfl,rfl⟩
  go_wp2
  go_ret
  exact⟨_,_,_,rfl,HF.out,hbr.setCell (p:=⟨g,i,none⟩) hgw _⟩
namespace Nt
theorem mul_step{S T y:List Int}{i j:Nat}{c t x:Int}(hi:i+j<T.length)(h:valTo T (i+j)+c*pw (i+j)=valTo S (i+j)+x*(pw i*valTo y j))(hT:T[i+j]?.getD 0=S[i+j]?.getD 0)(ht:t=x*y[j]?.getD 0+T[i+j]?.getD 0+c):
  valTo (T.set (i+j) (t%4294967296)) (i+(j+1))+(t/4294967296)*pw (i+(j+1))=valTo S (i+(j+1))+x*(pw i*valTo y (j+1)):=by
 rw[←Nat.add_assoc,zxl T _ hi,zyf,zyf,pw];have e:=Int.mul_ediv_add_emod t 4294967296;generalize t%4294967296=r at *;generalize t/4294967296=q at *;rw[hT] at ht;rw[pw_add] at *
 grind
theorem mul_bd32{x y:Int}(hx:0≤x∧x<4294967296)(hy:0≤y∧y<4294967296):0≤x*y∧x*y≤18446744065119617025:=by
 refine⟨Int.mul_nonneg hx.1 hy.1,?_⟩;have:x*y≤4294967295*4294967295:=Int.mul_le_mul xq xq hy.1 xq
 omega
end Nt
theorem Mul_any(A B:Option Addr)(n c m d:Nat)(a b:List Int)(w:World)(ha:SlR .u32 w A n c a)(hb:SlR .u32 w B m d b)(da:Dig a)(db:Dig b)(hn:n≤1000000000)(hm:m≤1000000000):
  qyc 161 #[.slice A n c,.slice B m d] w fun e w'=>∃A' n' c',e=.returned (.slice A' n' c')∧NatF w w' A' n' c' (Nt.val a*Nt.val b).toNat∧Below w.heap.size w w':=by
 have lx:(strip a).length≤n:=by rw[←ha.1];exact zyh a
 have ly:(strip b).length≤m:=by rw[←hb.1];exact zyh b
 have hx:=ha.upto (m:=(strip a).length) lx;have hy:=hb.upto (m:=(strip b).length) ly;rw[←strip_take] at hx hy;have ev:Hid (Nt.val a*Nt.val b=Nt.val (strip a)*Nt.val (strip b)):=by show _=_;rw[zwn,zwn]
 have dx:=Lib.hid (strip_dig da);have dy:=Lib.hid (strip_dig db)
 go_enter Tryz.func161,Tryz.ntmps161
 go_wp2_with fail
 refine(zwj _ _ _ _ _ ha).mono ?_;rintro e w1 ⟨rfl,rfl⟩
 go_wp2_with fail
 refine(zwj _ _ _ _ _ hb).mono ?_;rintro e w1 ⟨rfl,rfl⟩;obtain⟨X,hX⟩:∃X,X=(strip a).length:=⟨_,rfl⟩
 obtain⟨Y,hY⟩:∃Y,Y=(strip b).length:=⟨_,rfl⟩
 have HX:Hid ((strip a).length=X):=hX.symm;have HY:Hid ((strip b).length=Y):=hY.symm;rw[←hX] at hx lx ⊢;rw[←hY] at hy ly ⊢;generalize strip a=x at *;generalize strip b=y at *;clear ha hb da db hX hY
 by_cases hX0:X=0
 ·subst hX0
  have hfin:Hid ((Nt.val a*Nt.val b).toNat=0):=by
   have h1:=ev.out;have:x=[]:=List.eq_nil_of_length_eq_zero HX.out;show _=_;rw[h1,this];simp[Nt.val]
  go_wp2
  go_ret
  refine⟨none,0,0,rfl,?_,Below.refl _ _⟩;rw[hfin.out];exact⟨by rw[zxa];rfl,by rw[zxa];exact SlR.nil _ _ _ (Nat.zero_le _),fun h=>absurd h xq⟩
 by_cases hY0:Y=0
 ·subst hY0;have hXb:((X:Int)==0)=false:=by rw[beq_eq_false_iff_ne];omega
  have hfin:Hid ((Nt.val a*Nt.val b).toNat=0):=by
   have h1:=ev.out;have:y=[]:=List.eq_nil_of_length_eq_zero HY.out;show _=_;rw[h1,this];simp[Nt.val]
  go_wp2
  go_ret
  refine⟨none,0,0,rfl,?_,Below.refl _ _⟩;rw[hfin.out];exact⟨by rw[zxa];rfl,by rw[zxa];exact SlR.nil _ _ _ (Nat.zero_le _),fun h=>absurd h xq⟩
 have hXb:((X:Int)==0)=false:=by rw[beq_eq_false_iff_ne];omega
 have hYb:((Y:Int)==0)=false:=by rw[beq_eq_false_iff_ne];omega
 clear hX0 hY0
 go_wp2_with (at_make;refine zxg _ rfl (.tmp 30) (.tmp 30) _ rfl 77 .u32 4 Tryz.underlying31 zxj _ _ _ _ (X+Y) rfl rfl ?L ?C ?b2 ?b3 ?_)
 case L=>omega
 case C=>omega
 case b2=>omega
 case b3=>unfold maxLen;omega
 intro w2 ab ac ad;obtain⟨g,hg⟩:∃g,g=w.heap.size:=⟨_,rfl⟩
 have hgw:w.heap.size≤g:=by omega
 rw[←hg] at ab ⊢;clear ad hg hXb hYb
 go_wp2
 go_loopw [34] (fun iv wr=>∃(i:Nat) (S:List Int),i≤X∧iv=.int .i64 i∧KBlk .u32 wr g 77 S∧Hid (S.length=X+Y)∧Hid (Dig S)∧Hid (valTo S (i+Y)=valTo x i*Nt.val y)∧Hid (∀k,i+Y≤k→S[k]?.getD 0=0)∧Below w.heap.size w wr) (fun iv _=>X-(intOf iv).toNat)
 case atStart=>exact⟨0,_,by omega,rfl,ab,by simp[Hid],Dig.repl _,by show _=_;rw[zxe,Int.zero_mul];unfold valTo;rw[List.take_replicate,val_repl],fun k _=>by simp only[List.getElem?_replicate];split<;>rfl,ac⟩
 case round=>
  obtain⟨i,S,hi,rfl,hk,hS,dS,hv,hz,hbr⟩:=hrel;clear ab ac
  by_cases hiX:i<X
  ·obtain⟨b1,o1,rfl,_,aa⟩:=(hx.below hbr).pos hiX;have q1:=dx.out.at i
   by_cases hx0:x[i]?.getD 0=0
   ·have hv':Hid (valTo S (i+1+Y)=valTo x (i+1)*Nt.val y):=by
     have h1:=hv.out;have h2:=hz.out (i+Y) qyl;show _=_;rw[show i+1+Y=i+Y+1 by omega,zyf,h1,h2,zyf,hx0];simp
    rw[hx0] at aa;clear hx0 q1 hv
    go_wp2
    go_roundw
    case rel=>exact⟨i+1,S,by omega,by go_num,hk,hS,dS,hv',fun k hk'=>hz.out k xq,hbr⟩
    case measure=>simp[intOf];omega
   have hxb:(x[i]?.getD 0==0)=false:=by rw[beq_eq_false_iff_ne];exact hx0
   obtain⟨xi,hxi⟩:∃xi,xi=x[i]?.getD 0:=⟨_,rfl⟩
   rw[←hxi] at aa q1 hxb;have q1a:=q1.1;have q1b:=q1.2;have Hxi:=Lib.hid hxi;clear hx0 q1 hxi
   go_wp2
   clear aa hxb;obtain⟨wo,rfl⟩:∃wo:World,wo=wr:=⟨_,rfl⟩
   go_loopw [10,43] (fun cv jv wr=>∃(j:Nat) (cy:Int) (T:List Int),j≤Y∧0≤cy∧cy≤4294967295∧cv=.int .u64 cy∧jv=.int .i64 j∧KBlk .u32 wr g 77 T∧Hid (T.length=X+Y)∧Hid (Dig T)∧Hid (valTo T (i+j)+cy*pw (i+j)=valTo S (i+j)+xi*(pw i*valTo y j))∧Hid (∀k,i+j≤k→T[k]?.getD 0=S[k]?.getD 0)∧Below w.heap.size w wr) (fun _ jv _=>Y-(intOf jv).toNat)
   case atStart=>exact⟨0,0,S,by omega,by omega,by omega,rfl,rfl,hk,hS,dS,by simp[Hid,zxe],fun k _=>rfl,hbr⟩
   case round=>
    obtain⟨j,cy,T,hj,c0,c1,rfl,rfl,hk,hT,dT,hw,hsame,hbr⟩:=hrel
    by_cases hjY:j<Y
    ·obtain⟨b2,o2,rfl,_,hc2⟩:=(hy.below hbr).pos hjY;have q2:=dy.out.at j;have q3:=dT.out.at (i+j);have hc3:=hk.cell (i:=i+j) (by have:=hT.out;omega);have hf3:=hk.frozen (i+j);have q4:=mul_bd32 ⟨q1a,q1b⟩ q2;have q4a:=q4.1;have q4b:=q4.2;have q3a:=q3.1;have q3b:=q3.2;have q2a:=q2.1;have q2b:=q2.2;have Hst:=Lib.hid (mul_step (t:=xi*y[j]?.getD 0+T[i+j]?.getD 0+cy) (by have:=hT.out;omega) hw.out (hsame.out _ qyl) rfl);clear q2 q3 q4
     go_wp2
     go_roundw
     case rel=>exact⟨j+1,_,_,by omega,by omega,by omega,rfl,by go_num,hk.set (i+j) _,by have:=hT.out;show _=_;simpa using this,dT.out.set (i+j) xq,Hst.out,fun k hk'=>by rw[List.getElem?_set_ne xq];exact hsame.out k xq,hbr.setCell (p:=⟨g,i+j,none⟩) hgw _⟩
     case measure=>simp[intOf];omega
    obtain rfl:j=Y:=by omega
    have hc3:=hk.cell (i:=i+j) (by have:=hT.out;omega);have hf3:=hk.frozen (i+j)
    have hv':Hid (valTo (T.set (i+j) cy) (i+1+j)=valTo x (i+1)*Nt.val y):=by
     have h1:=hw.out;have h2:=hv.out;have h3:=Hxi.out;show _=_;rw[show i+1+j=i+j+1 by omega,zxl T cy (by have:=hT.out;omega),zyf,←h3];rw[zyg y (by have:=HY.out;omega)] at h1
     grind
    have hz':Hid (∀k,i+1+j≤k→(T.set (i+j) cy)[k]?.getD 0=0):=fun k hk'=>by
     rw[List.getElem?_set_ne xq,hsame.out k xq];exact hz.out k xq
    clear hv hz hw hsame
    go_wp2
    go_roundw
    case rel=>exact⟨i+1,_,by omega,by go_num,hk.set (i+j) _,by have:=hT.out;show _=_;simpa using this,dT.out.set (i+j) xq,hv',hz',hbr.setCell (p:=⟨g,i+j,none⟩) hgw _⟩
    case measure=>simp[intOf];omega
  obtain rfl:i=X:=by omega
  have hval:Nt.val S=Nt.val a*Nt.val b:=by
   have h1:=hv.out;rw[←zyg S (n:=i+Y) (by have:=hS.out;omega),h1,ev.out,zyg x (by have:=HX.out;omega)]
  have hsl:=hk.slr_all (n:=i+Y) (c:=i+Y) hS.out xq yv;have hfr:=zwb (w0:=w) hk hS.out yv dS.out hgw;rw[hval] at hfr;have HF:=Lib.hid hfr;clear hval hfr
  go_wp2_with fail
  refine(zwj _ _ _ _ _ hsl).mono ?_;rintro e w1 ⟨rfl,rfl⟩
  go_wp2
  go_ret
  exact⟨_,_,_,rfl,HF.out,hbr⟩
end Go.Proofs.YtcpnfblekhgmgaaGreat

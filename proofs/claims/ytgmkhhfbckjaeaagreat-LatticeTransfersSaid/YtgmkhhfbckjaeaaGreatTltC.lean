/- Parts of the proof: contracts of functions, each walked once, and plain laws. -/
import Derived.Test.YtgmkhhfbckjaeaaGreatTltB
import Derived.ArgAppend
import Derived.Laws.StructEq
import Derived.ChangeKeysEq
import Derived.Test.YtgmkhhfbckjaeaaGreatProg
import Derived.KernelRfl
set_option linter.unusedVariables false
namespace Go.Proofs.YtgmkhhfbckjaeaaGreat
open Go.RowKit
section
variable {P : Program} {ops : Array Oper} {w0 : Base} {u0 : World} {S T : St} {B : Tmp → Nat} {a : Act} {w w' u u' : World} {o : Oper} {p : List Tmp} {seq : Bool} {rest : List (Oper × List Tmp)} {K : St → World → Prop}
theorem Rep.pubA (h : Rep w0 u0 S B a w u) {r t : Tmp} {V : Vr} {pubs : List Tmp} (hno : NoAt S pubs) (ht : t ∈ pubs) (hall : ∀ s ∈ pubs, ∀ V', S.var s = some V' → s = t) (hr : S.reg r = some (.adr t 0)) (hv : S.var t = some V) (htn : t < S.n) :
  Rep w0 u0 ((S.unpub pubs).set r (.v (.pointer (some ⟨B t, 0, none⟩)))) B a w (pubW u w [B t]) := by
 refine ⟨⟨fun s x hx => ?_, h.regs.size⟩, ⟨fun s x t' hx ht' => ?_⟩, h.defers, fun s V' hV => ?_, fun s s' V1 V2 h1 h2 e => ?_, pubW_dat h.dat, h.base, pubW_grow h.grow (fun b hb => ?_), h.bel⟩
 ·by_cases e : s = r
  ·subst e
   simp only [St.set, zxc] at hx
   injection hx with hx
   subst hx
   exact h.regs.reg s (.adr t 0) hr
  simp only [St.set, upd_ne _ _ e] at hx
  exact h.regs.reg s x (zwf hx).1
 ·by_cases e : s = r
  ·subst e
   simp only [St.set, zxc] at hx
   injection hx with hx
   subst hx; cases ht'
  simp only [St.set, upd_ne _ _ e] at hx
  obtain ⟨k1, k2⟩ := zwf hx
  obtain ⟨V', hV'⟩ := h.wf.reg s x t' k1 ht'
  exact ⟨V', by show (S.unpub pubs).var t' = _; rw [unpub_var (fun hm => k2 (hno s x t' k1 ht' hm))]; exact hV'⟩
 ·obtain ⟨k1, k2⟩ := zxo hV
  obtain ⟨g1, g2, g3⟩ := h.var s V' k1
  refine ⟨g1, ?_, g3⟩
  rw [pubW_out]
  ·exact g2
  intro hm
  simp at hm
  exact k2 (h.inj s t V' V k1 hv hm ▸ ht)
 ·exact h.inj s s' V1 V2 (zxo h1).1 (zxo h2).1 e
 simp at hb; subst hb; exact (h.var t V hv).2.2.1 htn
theorem sw_pubA {c0 : Code} {Q : MP} {r t : Tmp} {V : Vr} (pubs : List Tmp) (hno : NoAt S pubs) (hall : (pubs.all fun s => Nat.beq s t || (S.var s).isNone) = true) (hr : S.reg r = some (.adr t 0)) (hv : S.var t = some V) (ht : pubs.contains t = true)
  (k : ∀ b u1, Ext u u1 → u0.heap.size ≤ b → (∀ ob, u.heap[b]? = some ob → ob = hidO) → u1.heap[b]? = some (.cells V.cs.toArray V.ty (0, 0)) → SW P w0 u0 c0 ((S.unpub pubs).set r (.v (.pointer (some ⟨b, 0, none⟩)))) u1 Q) (hlt : Nat.blt t S.n = true := by kernel_rfl) : SW P w0 u0 c0 S u Q := by
 intro B a w u' e hrep
 have hm := List.contains_iff_mem.1 ht
 obtain ⟨g1, g2, g3⟩ := hrep.var t V hv
 have hx : Ext u' (pubW u' w [B t]) := pubW_ext hrep.dat
 have hrep2 := hrep.pubA hno hm (fun s hs V' hV' => by
  have := List.all_eq_true.1 hall s hs
  simp only [Bool.or_eq_true, Option.isNone_iff_eq_none] at this
  rcases this with h | h
  ·exact Nat.eq_of_beq_eq_true h
  rw [hV'] at h; cases h) hr hv (Nat.le_of_ble_eq_true hlt)
 refine k (B t) (pubW u' w [B t]) (e.trans hx) (g3.1 (Nat.le_of_ble_eq_true hlt)) (fun ob hob => ?_) (by rw [pubW_in zz (zxa g2) hrep.dat.size]; exact g1) B a w _ (Ext.refl _) hrep2
 by_cases hh : ob = hidO
 ·exact hh
 have := e.vis _ ob hob hh
 rw [g2] at this; injection this with this; exact this.symm
theorem ExtB.old2 {b : Nat} {v : World} (h : ExtB b u u') (e : Ext v u) (hb : ∀ ob, v.heap[b]? = some ob → ob = hidO) : Ext v u' :=
 ⟨Nat.le_trans e.size h.size, fun k o hk hh => h.vis k o (fun e' => hh (hb o (e' ▸ hk))) (e.vis k o hk hh) hh⟩
theorem sy_fun (d : Tmp) {f : FuncId} {cs : List Operand} (vs : List Value) (k : sym P ops w0 u0 true rest (S.set d (.v (.func (.func f) #[] vs.toArray))) u K) (hw : Wants ops o S := by exact zwg xj) (hd : o.dst = some d := by kernel_rfl) (hop : o.op = .makeFunc (.func f) #[] cs.toArray := by rfl) (hf : freeB S d = true := by kernel_rfl)
  (hev : cs.map (evO S) = vs.map (fun v => some (.v v)) := by rfl) : sym P ops w0 u0 true ((o, p) :: rest) S u K := by
 refine .inr (.inr (.inl ⟨.inl rfl, fun B a w u' he hrep => ⟨hw B a hrep.regs, ?_⟩⟩))
 have hcs : cs.map a.eval = vs := by
  clear hop k
  induction cs generalizing vs with
  | nil => cases vs with
   | nil => rfl
   | cons v vs => cases hev
  | cons c cs ih => cases vs with
   | nil => cases hev
   | cons v vs =>
    simp only [List.map_cons, List.cons.injEq] at hev ⊢
    refine ⟨?_, ih vs hev.2⟩
    rw [ev_of hrep.regs hev.1]; rfl
 have hrun : (execOp a.eval o).run P w = .ok (.value (.func (.func f) #[] vs.toArray)) w := by
  unfold execOp
  simp only [hop]
  simp [Instr.makeFunc, Sem.run_pure, ← hcs]
 unfold Oper.wp
 rw [hrun]
 have hr2 := hrep.set (d := o.dst) (x := some (.v (.func (.func f) #[] vs.toArray))) (v := .func (.func f) #[] vs.toArray) (fun s hs => (zxy hd hf s hs).1) (fun z e => by injection e with e; rw [← e]; rfl) (fun z t e ht => by injection e with e; rw [← e] at ht; cases ht)
 show ∃ S' B' u'' u2, Rep w0 u0 S' B' (a.put o.dst _) w u'' ∧ _
 refine ⟨_, B, u', u, hr2, fun _ => Ext.refl _, fun _ => Ext.refl _, he, ?_⟩
 rw [hd]; exact k
def SL (P : Program) (w0 : Base) (u0 : World) (ops : Array Oper) (l : List Oper) (S : St) (u : World) (Q : MP) : Prop :=
 ∀ B a w u', Ext u u' → Rep w0 u0 S B a w u' → wpList P ops (fun e a' w' => ∃ S' B' u'', Rep w0 u0 S' B' a' w' u'' ∧ Q.f e S' u'') l a w
theorem SL.mono {l : List Oper} {Q : MP} : Mono (fun S u => SL P w0 u0 ops l S u Q) := fun S u u' e h B a w u'' e' hr => h B a w u'' (e.trans e') hr
theorem sl_key {Q : Exit → Act → World → Prop} (hK : Mono K) (l2 : List Oper) (hQ : ∀ S u, K S u → ∀ B a w, Rep w0 u0 S B a w u → wpList P ops Q l2 a w) :
  ∀ (l : List Oper) (S : St) (B : Tmp → Nat) (a : Act) (w u : World), Rep w0 u0 S B a w u → sym P ops w0 u0 true (l.map fun o => (o, [])) S u K → wpList P ops Q (l ++ l2) a w := by
 intro l
 induction l with
 | nil => intro S B a w u hr h; exact hQ S u h B a w hr
 | cons o l ih =>
  intro S B a w u hr h
  have hs := one_sound (Q := Q) (zwd hK) h (Ext.refl _) hr
  refine wpList_step fun K' hK' => ?_
  have hfin : ∀ a' w', (∃ S' B' u'', Rep w0 u0 S' B' a' w' u'' ∧ (true = false → Ext u u'') ∧ sym P ops w0 u0 true (l.map fun o => (o, [])) S' u'' K) → K' a' w' := by
   rintro a' w' ⟨S', B', u'', g1, _, g3⟩
   exact hK' _ _ (ih S' B' a' w' u'' g1 g3)
  show if Region.wanted o (yielded ops a.tmps) = true then _ else _
  split
  ·rename_i hw
   rw [if_pos hw] at hs
   exact Oper.wp_mono hfin hs
  rename_i hw
  rw [if_neg hw] at hs
  exact hfin _ _ hs
theorem sw_cut {id : Nat} {Q : MP} (n : Nat) (h : sym P ops w0 u0 true ((ops.toList.take n).map fun o => (o, [])) S u (fun S' u' => SL P w0 u0 ops (ops.toList.drop n) S' u' Q)) : SW P w0 u0 (.region id ops false) S u Q := by
 intro B a w u' e hr
 refine wp_region_list ?_
 have := sl_key (Q := fun e a' w' => ∃ S' B' u'', Rep w0 u0 S' B' a' w' u'' ∧ Q.f e S' u'') (SL.mono (l := ops.toList.drop n) (Q := Q)) (ops.toList.drop n) (fun S u h B a w hr => h B a w u (Ext.refl _) hr) (ops.toList.take n) S B a w u' hr (zwd SL.mono _ _ _ e h)
 rw [List.take_append_drop] at this
 exact this
theorem sl_sym {l : List Oper} {Q : MP} (h : sym P ops w0 u0 true (l.map fun o => (o, [])) S u (Q.f .normal)) : SL P w0 u0 ops l S u Q := by
 intro B a w u' e hr
 have := sl_key (P := P) (ops := ops) (Q := fun e a' w' => ∃ S' B' u'', Rep w0 u0 S' B' a' w' u'' ∧ Q.f e S' u'') (K := Q.f .normal) (Q.mono _) [] (fun S u h B a w hr => by exact ⟨S, B, u, hr, h⟩) l S B a w u' hr (zwd (Q.mono _) _ _ _ e h)
 rw [List.append_nil] at this
 exact this
theorem Rep.adoptA (hrep : Rep w0 u0 S B a w u') {r k : Tmp} {b : Nat} {cs : List Value} {ty : TypeId} (hr : S.reg r = some (.v (.pointer (some ⟨b, 0, none⟩)))) (hbu : u'.heap[b]? = some (.cells cs.toArray ty (0, 0))) (hb0 : u0.heap.size ≤ b) (hk : S.var k = none) (hkn : k < S.n) :
  Rep w0 u0 ⟨S.n, upd S.reg r (some (.adr k 0)), upd S.var k (some ⟨ty, cs⟩)⟩ (setB B k b) a w (hideB u' b) := by
 have hbw : w.heap[b]? = some (.cells cs.toArray ty (0, 0)) := hrep.dat.ext.cells hbu
 have hlt := zxa hbu
 have hno : ∀ s x, S.reg s = some x → x.at? ≠ some k := fun s x hx hc => by
  obtain ⟨V, hV⟩ := hrep.wf.reg s x k hx hc; rw [hk] at hV; cases hV
 have hBt : ∀ t V, S.var t = some V → B t ≠ b := fun t V hV hc => by
  have := (hrep.var t V hV).2.1
  rw [hc, hbu] at this
  injection this with this
  unfold hidO at this; cases this
 refine ⟨⟨fun s x hx => ?_, hrep.regs.size⟩, ⟨fun s x t hx ht => ?_⟩, hrep.defers, fun t V hV => ?_, fun t t' V1 V2 h1 h2 he => ?_, ⟨by rw [hideB_size]; exact hrep.dat.size, fun b' o hb' hh => ?_⟩, hrep.base, ⟨by rw [hideB_size]; exact hrep.grow.size, fun b' hb' hf' => ?_⟩, hrep.bel⟩
 ·by_cases e1 : s = r
  ·subst e1
   simp only [zxc] at hx
   injection hx with hx
   subst hx
   have := hrep.regs.reg s _ hr
   simpa [SV.conc, setB] using this
  simp only [upd_ne _ _ e1] at hx
  rw [conc_setB (hno s x hx)]
  exact hrep.regs.reg s x hx
 ·show ∃ V, upd S.var k (some ⟨ty, cs⟩) t = some V
  by_cases e2 : t = k
  ·subst e2; exact ⟨_, zxc _ _ _⟩
  rw [upd_ne _ _ e2]
  by_cases e1 : s = r
  ·subst e1
   simp only [zxc] at hx
   injection hx with hx
   subst hx
   injection ht with ht; exact absurd ht.symm e2
  simp only [upd_ne _ _ e1] at hx
  exact hrep.wf.reg s x t hx ht
 ·by_cases e2 : t = k
  ·subst e2
   simp only [zxc] at hV
   injection hV with hV
   subst hV
   rw [show setB B t b t = b by simp [setB]]
   exact ⟨hbw, hideB_eq hlt, .mk0 hkn hb0⟩
  simp only [upd_ne _ _ e2] at hV
  obtain ⟨g1, g2, g3⟩ := hrep.var t V hV
  rw [show setB B k b t = B t by simp [setB, e2]]
  exact ⟨g1, by rw [hideB_ne (hBt t V hV)]; exact g2, g3⟩
 ·by_cases e1 : t = k
  ·by_cases e2 : t' = k
   ·rw [e1, e2]
   simp only [upd_ne _ _ e2] at h2
   simp [setB, e1, e2] at he
   exact absurd he.symm (hBt t' V2 h2)
  simp only [upd_ne _ _ e1] at h1
  by_cases e2 : t' = k
  ·simp [setB, e1, e2] at he
   exact absurd he (hBt t V1 h1)
  simp only [upd_ne _ _ e2] at h2
  simp [setB, e1, e2] at he
  exact hrep.inj t t' V1 V2 h1 h2 he
 ·by_cases e1 : b' = b
  ·subst e1
   rw [hideB_eq hlt] at hb'; injection hb' with hb'; exact absurd hb'.symm hh
  rw [hideB_ne e1] at hb'; exact hrep.dat.vis b' o hb' hh
 rw [hideB_ne xq]; exact hrep.grow.old b' hb' hf'
theorem Rep.adopt (hrep : Rep w0 u0 S B a w u') {r k : Tmp} {b n c : Nat} {cs : List Value} {ty : TypeId} (hr : S.reg r = some (.v (.slice (some ⟨b, 0, none⟩) n c))) (hbu : u'.heap[b]? = some (.cells cs.toArray ty (0, 0))) (hb0 : u0.heap.size ≤ b) (hk : S.var k = none) (hkn : k < S.n) :
  Rep w0 u0 ⟨S.n, upd S.reg r (some (.slc k 0 n c)), upd S.var k (some ⟨ty, cs⟩)⟩ (setB B k b) a w (hideB u' b) := by
 have hbw : w.heap[b]? = some (.cells cs.toArray ty (0, 0)) := hrep.dat.ext.cells hbu
 have hlt := zxa hbu
 have hno : ∀ s x, S.reg s = some x → x.at? ≠ some k := fun s x hx hc => by
  obtain ⟨V, hV⟩ := hrep.wf.reg s x k hx hc; rw [hk] at hV; cases hV
 have hBt : ∀ t V, S.var t = some V → B t ≠ b := fun t V hV hc => by
  have := (hrep.var t V hV).2.1
  rw [hc, hbu] at this
  injection this with this
  unfold hidO at this; cases this
 refine ⟨⟨fun s x hx => ?_, hrep.regs.size⟩, ⟨fun s x t hx ht => ?_⟩, hrep.defers, fun t V hV => ?_, fun t t' V1 V2 h1 h2 he => ?_, ⟨by rw [hideB_size]; exact hrep.dat.size, fun b' o hb' hh => ?_⟩, hrep.base, ⟨by rw [hideB_size]; exact hrep.grow.size, fun b' hb' hf' => ?_⟩, hrep.bel⟩
 ·by_cases e1 : s = r
  ·subst e1
   simp only [zxc] at hx
   injection hx with hx
   subst hx
   have := hrep.regs.reg s _ hr
   simpa [SV.conc, setB] using this
  simp only [upd_ne _ _ e1] at hx
  rw [conc_setB (hno s x hx)]
  exact hrep.regs.reg s x hx
 ·show ∃ V, upd S.var k (some ⟨ty, cs⟩) t = some V
  by_cases e2 : t = k
  ·subst e2; exact ⟨_, zxc _ _ _⟩
  rw [upd_ne _ _ e2]
  by_cases e1 : s = r
  ·subst e1
   simp only [zxc] at hx
   injection hx with hx
   subst hx
   injection ht with ht; exact absurd ht.symm e2
  simp only [upd_ne _ _ e1] at hx
  exact hrep.wf.reg s x t hx ht
 ·by_cases e2 : t = k
  ·subst e2
   simp only [zxc] at hV
   injection hV with hV
   subst hV
   rw [show setB B t b t = b by simp [setB]]
   exact ⟨hbw, hideB_eq hlt, .mk0 hkn hb0⟩
  simp only [upd_ne _ _ e2] at hV
  obtain ⟨g1, g2, g3⟩ := hrep.var t V hV
  rw [show setB B k b t = B t by simp [setB, e2]]
  exact ⟨g1, by rw [hideB_ne (hBt t V hV)]; exact g2, g3⟩
 ·by_cases e1 : t = k
  ·by_cases e2 : t' = k
   ·rw [e1, e2]
   simp only [upd_ne _ _ e2] at h2
   simp [setB, e1, e2] at he
   exact absurd he.symm (hBt t' V2 h2)
  simp only [upd_ne _ _ e1] at h1
  by_cases e2 : t' = k
  ·simp [setB, e1, e2] at he
   exact absurd he (hBt t V1 h1)
  simp only [upd_ne _ _ e2] at h2
  simp [setB, e1, e2] at he
  exact hrep.inj t t' V1 V2 h1 h2 he
 ·by_cases e1 : b' = b
  ·subst e1
   rw [hideB_eq hlt] at hb'; injection hb' with hb'; exact absurd hb'.symm hh
  rw [hideB_ne e1] at hb'; exact hrep.dat.vis b' o hb' hh
 rw [hideB_ne xq]; exact hrep.grow.old b' hb' hf'
theorem sl_adoptA {l : List Oper} {Q : MP} {r k : Tmp} {b : Nat} {cs : List Value} {ty : TypeId} (hr : S.reg r = some (.v (.pointer (some ⟨b, 0, none⟩)))) (hb : u.heap[b]? = some (.cells cs.toArray ty (0, 0))) (hb0 : u0.heap.size ≤ b) (hk : S.var k = none)
  (kk : ∀ u1, ExtB b u u1 → SL P w0 u0 ops l ⟨S.n, upd S.reg r (some (.adr k 0)), upd S.var k (some ⟨ty, cs⟩)⟩ u1 Q) (hkn : Nat.blt k S.n = true := by kernel_rfl) : SL P w0 u0 ops l S u Q := by
 intro B a w u' e hrep
 have hex : ExtB b u (hideB u' b) := ⟨by rw [hideB_size]; exact e.size, fun k' o hk' ho hh => by rw [hideB_ne hk']; exact e.vis k' o ho hh⟩
 exact kk (hideB u' b) hex (setB B k b) a w _ (Ext.refl _) (hrep.adoptA hr (e.cells hb) hb0 hk (Nat.le_of_ble_eq_true hkn))
theorem pubW_ext' {g : Nat} (hsz2 : u'.heap.size ≤ w'.heap.size) (hus : u'.heap.size = w.heap.size) (hnew : ∀ k, k < w.heap.size → w'.heap[k]? = w.heap[k]?) (hd : Dat u' w) (hge : w.heap.size ≤ g) : Ext (hide u' w') (pubW (hide u' w') w' [g]) := by
 refine ⟨Nat.le_of_eq (pubW_size _ _ _).symm, fun b ob hb hh => ?_⟩
 have hlt := zxa hb
 rw [zwp hsz2] at hlt
 by_cases e : b = g
 ·subst e
  rw [hide_new xq hlt] at hb
  injection hb with hb; exact absurd hb.symm hh
 rw [pubW_out (by simpa using e)]; exact hb
theorem sy_appG (d : Tmp) {T E : TypeId} {s x : Operand} {z : Value} {size bytes : Nat} {m c n cap t2 b off : Nat} {A : Option Addr} {ty2 : TypeId} {cs0 : List Value} (news : List Value) (hA : A = some ⟨b, off, none⟩) (hT : P.underlying T = some (.slice E)) (hi : (P.info? E).map (fun i => (i.zero, i.size, i.bytes)) = some (some z, size, bytes)) (hzs : z.cells.size = size) (hsz : 0 < size)
  (hl : news.length = m * size) (h1 : ∀ v ∈ news, v.oneCell' = true) (hm : 0 < m) (h63 : n + m ≤ maxLen) (hbytes : (n + m) * bytes ≤ 140737488355328)
  (hcap : cap < n + m) (hcl : cs0.length = n * size) (hold : ∀ j v, cs0[j]? = some v → u.cell? ⟨b, off + j, none⟩ = some v)
  (k : ∀ (g c1 : Nat) (cs : List Value) (u1 : World), Ext u u1 → u.heap.size ≤ g → n + m ≤ c1 → c1 ≤ maxLen → cs.length = c1 * size → cs.take ((n + m) * size) = cs0 ++ news → u1.heap[g]? = some (.cells cs.toArray E (0, 0)) → sym P ops w0 u0 seq rest (S.set d (.v (.slice (some ⟨g, 0, none⟩) (n + m) c1))) u1 K)
  (hw : Wants ops o S := by exact zwg xj) (hd : o.dst = some d := by kernel_rfl) (hop : o.op = .call { callee := .builtin .append, args := #[s, x], argTypes := #[T, T] } := by rfl) (hf : (freeB S d && (S.var d).isNone) = true := by kernel_rfl)
  (hs : evO S s = some (.v (.slice A n cap)) := by rfl) (hx : evO S x = some (.slc t2 0 m c) := by rfl) (hv2 : S.var t2 = some ⟨ty2, news⟩ := by rfl) : sym P ops w0 u0 seq ((o, p) :: rest) S u K := by
 subst hA
 simp only [Bool.and_eq_true, Option.isNone_iff_eq_none] at hf
 refine .inr (.inr (.inl ⟨.inr ⟨by rw [hop]; rfl, by rw [hop]; rfl⟩, fun B a w u' he hrep => ⟨hw B a hrep.regs, ?_⟩⟩))
 obtain ⟨q1, q2, q3⟩ := hrep.var t2 _ hv2
 obtain ⟨i, ab, hz, ac, hby⟩ := info_parts hi
 obtain ⟨v', w', hrun, ⟨g1, g2⟩, g3⟩ := run_append_arg_grows (P := P) (w := w) T o.type E i z size bytes hT ab hz ac hby hzs hsz ⟨b, off, none⟩ n cap cs0 hcl (fun j v hv => by rw [addr_add]; exact hrep.dat.ext.cell (he.cell (hold j v hv))) ⟨B t2, 0, none⟩ m c news hl (fun j v hv => by rw [addr_add, Nat.zero_add, cells_at q1]; simpa using hv) hcap h63 hbytes
 rcases g2 with ⟨_, hn0⟩ | ⟨g, c1, cs, rfl, hge, hgv, k1, k2, k3, k4⟩
 ·omega
 unfold Oper.wp execOp
 simp only [hop, resolve, invoke, builtin, Sem.run_bind, Sem.run_pure, Result.andThen_ok, List.map_toArray, List.map_cons, List.map_nil, ev_of hrep.regs hs, ev_of hrep.regs hx, SV.conc, hrun]
 have hdn := (zxy hd hf.1 d hd).1
 have hgw := zxa hgv
 have hus : u'.heap.size = w.heap.size := hrep.dat.size
 have hgx : w'.heap[g]? = some (.cells cs.toList.toArray E (0, 0)) := by simpa using hgv
 have aa : u'.heap.size ≤ w'.heap.size := by rw [hus]; exact g3.size
 have hreg : ∀ r y t, S.reg r = some y → y.at? = some t → t ≠ d := fun r y t hr ht e => by
  obtain ⟨V, hV⟩ := hrep.wf.reg r y t hr ht
  rw [e, hf.2] at hV; cases hV
 have hnew : ∀ k', k' < w.heap.size → w'.heap[k']? = w.heap[k']? := fun k' hk' => g3.block k' hk' (fun e => by cases e)
 refine ⟨S.set d (.v (.slice (some ⟨g, 0, none⟩) (n + m) c1)), B, pubW (hide u' w') w' [g], pubW (hide u' w') w' [g], ?_, ?_, ?_, Ext.refl _, ?_⟩
 ·have hdat : Dat (hide u' w') w' := ⟨zwp aa, fun k' ob hk' hh => by
   by_cases hlt : k' < u'.heap.size
   ·rw [hide_old hlt] at hk'
    rw [hnew k' xq]
    exact hrep.dat.vis k' ob hk' hh
   have h9 := zxa hk'
   rw [zwp aa] at h9
   rw [hide_new xq h9] at hk'
   injection hk' with hk'; exact absurd hk'.symm hh⟩
  refine ⟨⟨fun r y hy => ?_, by rw [Act.put_size]; exact hrep.regs.size⟩, ⟨fun r y t hy ht => ?_⟩, by rw [put_defers]; exact hrep.defers, fun t V hV => ?_, fun t t' V1 V2 e1 e2 => hrep.inj t t' V1 V2 e1 e2, pubW_dat hdat, hrep.base, pubW_grow (hrep.grow.trans (hide_grow aa)) (fun b' hb' => ?_), ?_⟩
  ·rw [hd]
   by_cases e : r = d
   ·subst e
    simp only [St.set, zxc] at hy
    injection hy with hy
    subst hy
    rw [Act.put_get_same _ _ (by rw [hrep.regs.size]; exact hdn)]
    rfl
   simp only [St.set, upd_ne _ _ e] at hy
   rw [Act.put_get_ne _ _ (fun k => e (by injection k with k; exact k.symm))]
   exact hrep.regs.reg r y hy
  ·by_cases e : r = d
   ·subst e
    simp only [St.set, zxc] at hy
    injection hy with hy
    subst hy; cases ht
   simp only [St.set, upd_ne _ _ e] at hy
   exact hrep.wf.reg r y t hy ht
  ·obtain ⟨v1, v2, v3⟩ := hrep.var t V hV
   have hlt := zxa v2
   refine ⟨by rw [hnew _ xq]; exact v1, ?_, v3⟩
   rw [pubW_out zx, hide_old hlt]
   exact v2
  ·simp at hb'
   subst hb'
   have := hrep.grow.size
   omega
  refine hrep.bel.trans ⟨g3.os, g3.tape, g3.output, g3.size, fun k' hk' => hnew k' ?_⟩
  have := hrep.bel.size; omega
 ·exact fun _ => (hide_grow aa).ext.trans (pubW_ext' aa hus hnew hrep.dat hge)
 ·exact fun _ => he.trans ((hide_grow aa).ext.trans (pubW_ext' aa hus hnew hrep.dat hge))
 refine k g c1 cs.toList _ (he.trans ((hide_grow aa).ext.trans (pubW_ext' aa hus hnew hrep.dat hge))) (Nat.le_trans he.size xq) k1 k2 (by simpa using k3) (by simpa using k4) ?_
 rw [pubW_in zz (by rw [zwp aa]; exact hgw) (zwp aa)]
 exact hgx
end
theorem sy_front3 {P : Program} {ops : Array Oper} {w0 : Base} {u0 : World} {S : St} {u : World} {o : Oper} {p : List Tmp} {seq : Bool} {rest : List (Oper × List Tmp)} {K : St → World → Prop} (d : Tmp) {T : TypeId} {x h g : Operand} {A : Option Addr} {n c : Nat} {k k2 : IntKind} {i j : Int} (m : Nat) {sz : Nat} (hT : SlIs P T sz) (hi : i = m) (hj : j = m) (hm : m ≤ c)
  (kk : sym P ops w0 u0 seq rest (S.set d (.v (.slice A m m))) u K) (hw : Wants ops o S := by exact zwg xj) (hd : o.dst = some d := by kernel_rfl) (hop : o.op = .slice T x none (some h) (some g) := by rfl) (hf : freeB S d = true := by kernel_rfl)
  (hx : evO S x = some (.v (.slice A n c)) := by rfl) (hh : evO S h = some (.v (.int k i)) := by rfl) (hg : evO S g = some (.v (.int k2 j)) := by rfl) : sym P ops w0 u0 seq ((o, p) :: rest) S u K := by
 subst hi hj
 obtain ⟨E, agg, hu, hE⟩ := hT
 refine .inl ⟨by rw [hop]; exact (by decide : (0 : Nat) ≠ 2), .set (.v (.slice A m m)), ⟨zxy hd hf, .inl ⟨(fun t ht => by cases ht), fun B a w u' hr he hdt => ⟨hw B a hr, ?_⟩⟩⟩, ?_⟩
 ·have e1 : (execOp a.eval o).run P w = (do pure (Next.value (← Instr.sliceAt T (a.eval x) none (some (a.eval h)) (some (a.eval g)))) : Sem Next).run P w := by unfold execOp; rw [hop]; rfl
  rw [e1, ev_eval hr hx, ev_eval hr hh, ev_eval hr hg]
  refine run_val ?_
  show (Instr.sliceAt T (.slice A n c) none (some (.int k m)) (some (.int k2 m))).run P w = .ok (.slice A m m) w
  have hs := (hE w).2
  simp [Instr.sliceAt, Instr.slice, Instr.sliceBounds, Instr.sliceBound, asIntOf, run_underlying hu, go_sem, hs, hm]
 show sym P ops w0 u0 seq rest (S.put o.dst (some _)) u K
 rw [hd]; exact kk
theorem sw_ren {P : Program} {w0 : Base} {u0 u : World} {S : St} {c0 : Code} {Q : MP} {r t : Tmp} {n c : Nat} {V : Vr} (k : Tmp) (pubs : List Tmp) (hno : NoAt S pubs) (hall : (pubs.all fun s => Nat.beq s t || (S.var s).isNone) = true) (hr : S.reg r = some (.slc t 0 n c)) (hv : S.var t = some V) (ht : pubs.contains t = true) (hk : (S.unpub pubs).var k = none)
  (kk : SW P w0 u0 c0 ⟨S.n, upd ((S.unpub pubs).set r (.v (.slice none 0 0))).reg r (some (.slc k 0 n c)), upd (S.unpub pubs).var k (some V)⟩ u Q) (hlt : Nat.blt t S.n = true := by kernel_rfl) (hkn : Nat.blt k S.n = true := by kernel_rfl) : SW P w0 u0 c0 S u Q := by
 intro B a w u' e hrep
 have hm := List.contains_iff_mem.1 ht
 obtain ⟨g1, g2, g3⟩ := hrep.var t V hv
 have hx : Ext u' (pubW u' w [B t]) := pubW_ext hrep.dat
 have hrep2 := hrep.pub hno hm (fun s hs V' hV' => by
  have := List.all_eq_true.1 hall s hs
  simp only [Bool.or_eq_true, Option.isNone_iff_eq_none] at this
  rcases this with h | h
  ·exact Nat.eq_of_beq_eq_true h
  rw [hV'] at h; cases h) hr hv (Nat.le_of_ble_eq_true hlt)
 have hin : (pubW u' w [B t]).heap[B t]? = some (.cells V.cs.toArray V.ty (0, 0)) := by rw [pubW_in zz (zxa g2) hrep.dat.size]; exact g1
 have hex : Ext u' (hideB (pubW u' w [B t]) (B t)) := ⟨by rw [hideB_size]; exact hx.size, fun k' o hk' hh => by
  have hne : k' ≠ B t := by
   rintro rfl
   rw [g2] at hk'; injection hk' with hk'; exact hh hk'.symm
  rw [hideB_ne hne]; exact hx.vis k' o hk' hh⟩
 obtain ⟨B2, h2⟩ : ∃ B2, Rep w0 u0 ⟨S.n, upd ((S.unpub pubs).set r (.v (.slice (some ⟨B t, 0, none⟩) n c))).reg r (some (.slc k 0 n c)), upd (S.unpub pubs).var k (some V)⟩ B2 a w (hideB (pubW u' w [B t]) (B t)) := ⟨_, hrep2.adopt (by simp [St.set, zxc]) hin (g3.1 (Nat.le_of_ble_eq_true hlt)) hk (Nat.le_of_ble_eq_true hkn)⟩
 have hS : (⟨S.n, upd ((S.unpub pubs).set r (.v (.slice (some ⟨B t, 0, none⟩) n c))).reg r (some (.slc k 0 n c)), upd (S.unpub pubs).var k (some V)⟩ : St) = ⟨S.n, upd ((S.unpub pubs).set r (.v (.slice none 0 0))).reg r (some (.slc k 0 n c)), upd (S.unpub pubs).var k (some V)⟩ := by
  congr 1
  funext z
  by_cases e1 : z = r
  ·subst e1; rw [zxc, zxc]
  rw [upd_ne _ _ e1, upd_ne _ _ e1]; simp only [St.set, upd_ne _ _ e1]
 rw [hS] at h2
 exact kk B2 a w _ (e.trans hex) h2
theorem sy_max2 {P : Program} {ops : Array Oper} {w0 : Base} {u0 : World} {S : St} {u : World} {o : Oper} {p : List Tmp} {rest : List (Oper × List Tmp)} {K : St → World → Prop} (d : Tmp) {x y : Operand} {k0 : IntKind} {n m v : Int} {tys : Array TypeId} (hv : (if m > n then m else n) = v)
  (k : sym P ops w0 u0 true rest (S.set d (.v (.int k0 v))) u K)
  (hw : Wants ops o S := by exact zwg xj) (hd : o.dst = some d := by kernel_rfl) (hop : o.op = .call { callee := .builtin .max, args := #[x, y], argTypes := tys } := by rfl) (hf : freeB S d = true := by kernel_rfl)
  (hx : evO S x = some (.v (.int k0 n)) := by rfl) (hy : evO S y = some (.v (.int k0 m)) := by rfl) : sym P ops w0 u0 true ((o, p) :: rest) S u K := by
 refine .inr (.inr (.inl ⟨.inl rfl, fun B a w u' he hrep => ⟨hw B a hrep.regs, ?_⟩⟩))
 have hrun : ∀ ty w, (Builtin.max_ tys ty #[.int k0 n, .int k0 m]).run P w = .ok (.int k0 v) w := by
  intro ty w
  rw [← hv]
  rfl
 unfold Oper.wp execOp
 simp only [hop, resolve, invoke, builtin, Sem.run_bind, Sem.run_pure, Result.andThen_ok, List.map_toArray, List.map_cons, List.map_nil, ev_of hrep.regs hx, ev_of hrep.regs hy, SV.conc, hrun]
 have hr2 := hrep.set (d := o.dst) (x := some (.v (.int k0 v))) (v := .int k0 v) (fun s hs => (zxy hd hf s hs).1) (fun z e => by injection e with e; rw [← e]; rfl) (fun z t e ht => by injection e with e; rw [← e] at ht; cases ht)
 show ∃ S' B' u'' u2, Rep w0 u0 S' B' (a.put o.dst _) w u'' ∧ _
 refine ⟨_, B, u', u, hr2, fun _ => Ext.refl _, fun _ => Ext.refl _, he, ?_⟩
 rw [hd]; exact k
theorem sy_maxN {P : Program} {ops : Array Oper} {w0 : Base} {u0 : World} {S : St} {u : World} {seq : Bool} {o : Oper} {p : List Tmp} {rest : List (Oper × List Tmp)} {K : St → World → Prop} (d : Tmp) {x y : Operand} {k0 : IntKind} {n m v : Int} {tys : Array TypeId} (hv : (if m > n then m else n) = v)
  (k : sym P ops w0 u0 seq rest (S.set d (.v (.int k0 v))) u K)
  (hw : Wants ops o S := by exact zwg xj) (hd : o.dst = some d := by kernel_rfl) (hop : o.op = .call { callee := .builtin .max, args := #[x, y], argTypes := tys } := by rfl) (hf : freeB S d = true := by kernel_rfl)
  (hx : evO S x = some (.v (.int k0 n)) := by rfl) (hy : evO S y = some (.v (.int k0 m)) := by rfl) : sym P ops w0 u0 seq ((o, p) :: rest) S u K := by
 have hrun : ∀ ty w, (Builtin.max_ tys ty #[.int k0 n, .int k0 m]).run P w = .ok (.int k0 v) w := by
  intro ty w
  rw [← hv]
  rfl
 refine .inl ⟨by rw [hop]; exact (by decide : (0 : Nat) ≠ 2), .set (.v (.int k0 v)), ⟨zxy hd hf, .inl ⟨(fun t ht => by cases ht), fun B a w u' hr he hdt => ⟨hw B a hr, ?_⟩⟩⟩, ?_⟩
 ·unfold execOp
  simp only [hop, resolve, invoke, builtin, Sem.run_bind, Sem.run_pure, Result.andThen_ok, List.map_toArray, List.map_cons, List.map_nil, ev_of hr hx, ev_of hr hy, SV.conc, hrun]
 show sym P ops w0 u0 seq rest (S.put o.dst (some _)) u K
 rw [hd]; exact k
section
variable {u u' u1 : World} {L : List RL} {r : RL} {l : List Rat} {q : Rat} {K n b b6 : Nat} {cs : List Value} {t t6 : TypeId}
theorem rl_set_same {i : Nat} (h : i < L.length) : (L.set i r).getD i rl0 = r := by
 rw [List.getD_eq_getElem?_getD, List.getElem?_set_self h]; rfl
theorem var_cells (h : u.heap[b]? = some (.cells cs.toArray t (0, 0))) : ∀ i, i < cs.length → u.cell? ⟨b, 0 + i, none⟩ = cs[i]? := fun i _ => by rw [Nat.zero_add, cells_at h]; simp
theorem var_cell1 {v : Value} (h : u.heap[b]? = some (.cells [v].toArray t (0, 0))) : u.cell? ⟨b, 0, none⟩ = some v := by rw [cells_at h]; rfl
theorem SlR.extB0 {A : Option Addr} {m c : Nat} {z : List Int} (h : SlR .u32 u A m c z) (hb : u.heap[b]? = some (.cells cs.toArray t (0, 0))) (hn : ∀ v ∈ cs, ∀ y, v ≠ .int .u32 y) (e : ExtB b u u') : SlR .u32 u' A m c z := by
 obtain ⟨h1, h2, h3, h4⟩ := h
 refine ⟨h1, h2, h3, fun hp => ?_⟩
 obtain ⟨b', o, rfl, hlt, hc⟩ := h4 hp
 have hne : b' ≠ b := by
  rintro rfl
  have := hc 0 hp
  rw [cells_at hb] at this
  have h9 : cs[o + 0]? = some (.int .u32 (z[0]?.getD 0)) := by simpa using this
  exact hn _ (List.mem_of_getElem? h9) _ rfl
 refine ⟨b', o, rfl, Nat.lt_of_lt_of_le hlt e.size, fun i hi => ?_⟩
 have := hc i hi
 unfold World.cell? at this ⊢
 cases hb' : u.heap[b']? with
 | none => simp only [hb'] at this; cases this
 | some ob =>
  simp only [hb'] at this
  cases ob with
  | cells cs t' fr => rw [e.vis b' _ hne hb' (by unfold hidO; exact fun e => by cases e)]; exact this
  | _ => cases this
theorem RatN.extB0 (h : RatN u r q K) (hb : u.heap[b]? = some (.cells cs.toArray t (0, 0))) (hn : ∀ v ∈ cs, ∀ y, v ≠ .int .u32 y) (e : ExtB b u u') : RatN u' r q K :=
 ⟨⟨h.1.1, h.1.2.1, h.1.2.2.1.extB0 hb hn e, h.1.2.2.2⟩, h.2.1, h.2.2.1.extB0 hb hn e, h.2.2.2⟩
theorem newR_adopt (hb : u.heap.size ≤ b) (hh : u'.heap[b]? = some (.cells (rcs L).toArray t (0, 0))) (hL : L.length = n) (hR : RatsN u' L l K) (hm : n ≤ maxLen) (h6 : u.heap[b6]? = some (.cells cs.toArray t6 (0, 0))) (h6' : u'.heap[b6]? = some (.cells cs.toArray t6 (0, 0))) (hn : ∀ v ∈ cs, ∀ y, v ≠ .int .u32 y) (e : ExtB b6 u' u1) : PolN u1 ⟨some ⟨b, 0, none⟩, n, n⟩ l K := by
 have hlt := zxa h6
 exact pol_data1 (e.vis b _ xq hh (by unfold hidO; exact fun e => by cases e)) xq ⟨hR.1, fun i hi => (hR.2 i hi).extB0 h6' hn e⟩ hL.symm
end
def setW (u : World) (b : Nat) (ob : Obj) : World := { u with heap := u.heap.setIfInBounds b ob }
structure ExtF (F : List Nat) (u u' : World) : Prop where
 size : u.heap.size ≤ u'.heap.size
 vis : ∀ (k : Nat) (o : Obj), k ∉ F → u.heap[k]? = some o → o ≠ hidO → u'.heap[k]? = some o
section
variable {P : Program} {ops : Array Oper} {w0 : Base} {u0 : World} {S T : St} {B : Tmp → Nat} {a : Act} {w w' u u' u'' v : World} {o : Oper} {p : List Tmp} {seq : Bool} {rest : List (Oper × List Tmp)} {K : St → World → Prop} {F : List Nat} {b : Nat} {ob : Obj}
theorem setW_size : (setW u b ob).heap.size = u.heap.size := by simp [setW]
theorem setW_ne {k : Nat} (h : k ≠ b) : (setW u b ob).heap[k]? = u.heap[k]? := by simp only [setW]; rw [Array.getElem?_setIfInBounds_ne (Ne.symm h)]
theorem setW_eq (h : b < u.heap.size) : (setW u b ob).heap[b]? = some ob := by simp [setW, h]
theorem ExtF.pre {u2 : World} (e : Ext u u') (h : ExtF F u' u2) : ExtF F u u2 := ⟨Nat.le_trans e.size h.size, fun k o hk ho hh => h.vis k o hk (e.vis k o ho hh) hh⟩
theorem ExtF.toB (h : ExtF [b] u u') : ExtB b u u' := ⟨h.size, fun k o hk ho hh => h.vis k o (by simpa using hk) ho hh⟩
theorem GrowF.extF (h : GrowF F u u') : ExtF F u u' := ⟨h.size, fun k o hk ho _ => (h.old k (zxa ho) hk).trans ho⟩
def MayB (w0 : Base) (u0 : World) (b : Nat) : Prop := u0.heap.size ≤ b ∨ b ∈ w0.free
theorem Rep.mut (h : Rep w0 u0 S B a w u) (hF : ∀ b ∈ F, MayB w0 u0 b ∧ ∃ ob, u.heap[b]? = some ob ∧ ob ≠ hidO) (hd : Dat u'' w') (hb : Bel ⟨w, none, F⟩ w') (hg : GrowF F u u'') : Rep w0 u0 S B a w' u'' := by
 have hno : ∀ b ∈ F, b < u0.heap.size → b ∈ w0.free := fun b hm hlt => by
  rcases (hF b hm).1 with h1 | h1
  ·omega
  exact h1
 refine ⟨h.regs, h.wf, h.defers, fun t V hV => ?_, h.inj, hd, h.base, ⟨Nat.le_trans h.grow.size hg.size, fun b hlt hf => ?_⟩, ?_⟩
 ·obtain ⟨v1, v2, v3⟩ := h.var t V hV
  have hn : B t ∉ F := fun hm => by
   obtain ⟨_, ob, e1, e2⟩ := hF _ hm
   rw [v2] at e1; injection e1 with e1; exact e2 e1.symm
  exact ⟨by rw [hb.block _ (zxa v1) (fun t e => by cases e) hn]; exact v1, by rw [hg.old _ (zxa v2) hn]; exact v2, v3⟩
 ·rw [hg.old b (Nat.lt_of_lt_of_le hlt h.grow.size) (fun hm => hf (hno b hm hlt))]
  exact h.grow.old b hlt hf
 have hbs := h.bel
 refine ⟨hb.os.trans hbs.os, hb.tape.trans hbs.tape, hb.output.trans hbs.output, Nat.le_trans hbs.size hb.size, fun k hk hl hf => ?_⟩
 rw [hb.block k (Nat.lt_of_lt_of_le hk hbs.size) (fun t e => by cases e) (fun hm => hf (hno k hm (by rw [h.base]; exact hk)))]
 exact hbs.block k hk hl hf
theorem setW_dat {cs : Array Value} {ty : TypeId} (h : Dat u w) (hw : w'.heap[b]? = some ob) (ho : OnlyB b w w') : Dat (setW u b ob) w' := by
 refine ⟨by rw [setW_size, h.size, ho.size], fun k o hk hh => ?_⟩
 by_cases e : k = b
 ·subst e
  have hlt := zxa hk
  rw [setW_size] at hlt
  rw [setW_eq hlt] at hk
  rw [hw]; exact hk
 rw [setW_ne e] at hk
 rw [ho.far k e]; exact h.vis k o hk hh
theorem setW_growF : GrowF [b] u (setW u b ob) := ⟨by rw [setW_size]; exact Nat.le_refl _, fun k hk hf => setW_ne (by simpa using hf)⟩
theorem onlyB_bel (h : OnlyB b w w') : Bel ⟨w, none, [b]⟩ w' := ⟨h.os, h.tape, h.output, Nat.le_of_eq h.size.symm, fun k hk _ hf => h.far k (by simpa using hf)⟩
theorem ev_any {z : Operand} {x : SV} (hr : RegOK S B a) (h : evO S z = some x) : a.eval z = x.conc B := ev_eval hr h
theorem sy_storeD {T : TypeId} {r : Tmp} {z : Operand} {v : Value} {agg : Bool} {n off : Nat} {cs : List Value} {ty : TypeId} (hub : u.heap[b]? = some (.cells cs.toArray ty (0, 0))) (hb : MayB w0 u0 b) (hT : TyIs P T agg n) (hl : off + n ≤ cs.length)
  (k : ∀ u1, u1.heap[b]? = some (.cells (setL cs off v.cells.toList).toArray ty (0, 0)) → ExtB b u u1 → sym P ops w0 u0 true rest S u1 K)
  (hw : Wants ops o S := by exact zwg xj) (hd : o.dst = none := by kernel_rfl) (hop : o.op = .store T (.tmp r) z := by rfl) (hr : S.reg r = some (.v (.pointer (some ⟨b, off, none⟩))) := by rfl) (hz : evO S z = some (.v v) := by rfl)
  (hn : v.cells.size = n := by kernel_rfl) (hone : v.cells.toList.all Value.oneCell' = true := by kernel_rfl) : sym P ops w0 u0 true ((o, p) :: rest) S u K := by
 refine .inr (.inr (.inl ⟨.inl rfl, fun B a w u' he hrep => ⟨hw B a hrep.regs, ?_⟩⟩))
 have hub' := he.cells hub
 have hwb := hrep.dat.ext.cells hub'
 obtain ⟨w', k1, k2, k3⟩ := run_storeCells (P := P) (b := b) (ty := ty) (base := off) v.cells.toList 0 w cs hwb zx (List.all_eq_true.1 hone)
 have hev : a.eval (.tmp r) = .pointer (some ⟨b, off, none⟩) := hrep.regs.eval hr
 have hez : a.eval z = v := ev_any hrep.regs hz
 have e2 : (Instr.storeAt T (.pointer (some ⟨b, off, none⟩)) v).run P w = .ok () w' := by
  have e3 : (Instr.storeAt T (.pointer (some ⟨b, off, none⟩)) v).run P w = (storeVar T ⟨b, off, none⟩ v).run P w := rfl
  rw [e3]
  unfold storeVar
  rw [run_bind_ok (hT w).2, if_neg (by simp [hn])]
  exact k1
 have e1 : (execOp a.eval o).run P w = .ok .skip w' := by
  have e4 : (execOp a.eval o).run P w = (do Instr.storeAt T (a.eval (.tmp r)) (a.eval z); pure Next.skip : Sem Next).run P w := by
   unfold execOp; rw [hop]
  rw [e4, hev, hez, run_bind_ok e2]
  rfl
 unfold Oper.wp
 rw [e1]
 simp only [Nat.add_zero] at k2
 have hlt := zxa hub'
 have hdat : Dat (setW u' b (.cells (setL cs off v.cells.toList).toArray ty (0, 0))) w' := setW_dat (cs := #[]) (ty := 0) hrep.dat k2 k3
 have hr2 := hrep.mut (F := [b]) (fun b' hm => by simp at hm; subst hm; exact ⟨hb, _, hub', by unfold hidO; intro e; cases e⟩) hdat (onlyB_bel k3) setW_growF
 refine ⟨S, B, _, _, ?_, (fun e => by cases e), (fun e => by cases e), Ext.refl _, k _ (setW_eq hlt) (ExtF.toB (.pre he setW_growF.extF))⟩
 rw [hd]; exact hr2
def grownW (u w' : World) (b g : Nat) (ob : Obj) : World := setW (setW (hide u w') b hidO) g ob
theorem grownW_size {g : Nat} (h : u.heap.size ≤ w'.heap.size) : (grownW u w' b g ob).heap.size = w'.heap.size := by unfold grownW; rw [setW_size, setW_size, zwp h]
theorem sy_dataN (d : Tmp) (V : Vr) (n : Nat) (k : ∀ b u1, Ext u u1 → u1.heap[b]? = some (.cells V.cs.toArray V.ty (0, 0)) → u0.heap.size ≤ b → u.heap.size ≤ b → sym P ops w0 u0 false rest (S.set d (.v (.slice (some ⟨b, 0, none⟩) n n))) u1 K) (hp : p ≠ [] := by exact List.cons_ne_nil _ _)
  (hw : Wants ops o S := by exact zwg xj) (hd : o.dst = some d := by kernel_rfl) (hk : opK o.op ≠ 2 := by decide) (hf : (freeB S d && knownB S o) = true := by kernel_rfl) (hv : S.var d = none := by kernel_rfl)
  (hrun : ∀ B w, (execOp (rho S B) o).run P w = .ok (.value (.slice (some ⟨w.heap.size, 0, none⟩) n n)) (w.alloc (.cells V.cs.toArray V.ty)) := by intro _ _; kernel_rfl) : sym P ops w0 u0 false ((o, p) :: rest) S u K := by
 simp only [Bool.and_eq_true] at hf
 refine .inr (.inr (.inr (.inr ⟨rfl, hp, hk, V, n, ⟨zxy hd hf.1, d, hd, hv, fun B a w hr => ⟨hw B a hr, ?_⟩⟩, fun b u1 e1 b1 b2 b3 => ?_⟩)))
 ·rw [exec_rho hr hf.2 hk]; exact hrun B w
 rw [hd]; exact k b u1 e1 b1 b2 b3
theorem sy_dataF (d : Tmp) (V : Vr) (n : Nat) (k : ∀ b u1, Ext u u1 → u1.heap[b]? = some (.cells V.cs.toArray V.ty (0, 0)) → u0.heap.size ≤ b → u.heap.size ≤ b → sym P ops w0 u0 true rest (S.set d (.v (.slice (some ⟨b, 0, none⟩) n n))) u1 K)
  (hw : Wants ops o S := by exact zwg xj) (hd : o.dst = some d := by kernel_rfl) (hk : opK o.op ≠ 2 := by decide) (hf : (freeB S d && knownB S o) = true := by kernel_rfl)
  (hrun : ∀ B w, (execOp (rho S B) o).run P w = .ok (.value (.slice (some ⟨w.heap.size, 0, none⟩) n n)) (w.alloc (.cells V.cs.toArray V.ty)) := by intro _ _; kernel_rfl) : sym P ops w0 u0 true ((o, p) :: rest) S u K := by
 simp only [Bool.and_eq_true] at hf
 refine .inr (.inr (.inl ⟨.inl rfl, fun B a w u' he hrep => ⟨hw B a hrep.regs, ?_⟩⟩))
 unfold Oper.wp
 rw [exec_rho hrep.regs hf.2 hk, hrun B w]
 have hs : u'.heap.size = w.heap.size := hrep.dat.size
 refine ⟨S.set d (.v (.slice (some ⟨w.heap.size, 0, none⟩) n n)), B, u'.alloc (.cells V.cs.toArray V.ty), u'.alloc (.cells V.cs.toArray V.ty), ?_, (fun e => by cases e), (fun e => by cases e), Ext.refl _, k _ _ (he.trans (zxu _ _).ext) (by rw [← hs]; exact zxr _ _) (by rw [← hs]; exact hrep.grow.size) (by rw [← hs]; exact he.size)⟩
 rw [hd]
 exact (hrep.vis _).set (d := some d) (x := some (.v (.slice (some ⟨w.heap.size, 0, none⟩) n n))) (fun t e => by injection e with e; subst e; exact (zxy hd hf.1 d hd).1) (fun z e => by injection e with e; rw [← e]; rfl) (fun z t e ht => by injection e with e; rw [← e] at ht; cases ht)
theorem sy_makeN (d : Tmp) {T E : TypeId} {x y : Operand} {z : Value} {size bytes : Nat} {k1 k2 : IntKind} {i j : Int} (n : Nat) (cs : List Value) (hT : P.underlying T = some (.slice E)) (hi : (P.info? E).map (fun i => (i.zero, i.size, i.bytes)) = some (some z, size, bytes)) (hn : i = n) (hn2 : j = n) (hb : bytes * n ≤ 281474976710656) (h63 : n ≤ maxLen) (hcs : (madeCells z.cells (n * size)).toList = cs)
  (k : ∀ b u1, Ext u u1 → u1.heap[b]? = some (.cells cs.toArray E (0, 0)) → u0.heap.size ≤ b → u.heap.size ≤ b → sym P ops w0 u0 false rest (S.set d (.v (.slice (some ⟨b, 0, none⟩) n n))) u1 K) (hp : p ≠ [] := by exact List.cons_ne_nil _ _)
  (hw : Wants ops o S := by exact zwg xj) (hd : o.dst = some d := by kernel_rfl) (hop : o.op = .makeSlice T x y := by rfl) (hf : freeB S d = true := by kernel_rfl) (hv : S.var d = none := by kernel_rfl)
  (hx : evO S x = some (.v (.int k1 i)) := by rfl) (hy : evO S y = some (.v (.int k2 j)) := by rfl) : sym P ops w0 u0 false ((o, p) :: rest) S u K := by
 subst hcs hn hn2
 refine .inr (.inr (.inr (.inr ⟨rfl, hp, by rw [hop]; exact (by decide : (0 : Nat) ≠ 2), ⟨E, (madeCells z.cells (n * size)).toList⟩, n, ⟨zxy hd hf, d, hd, hv, fun B a w hr => ⟨hw B a hr, ?_⟩⟩, fun b u1 e1 b1 b2 b3 => ?_⟩)))
 ·have := makes (P := P) (w := w) n hT hi hb h63 hop hx hy hr
  simpa using this
 rw [hd]; exact k b u1 e1 b1 b2 b3
theorem sy_makeF (d : Tmp) {T E : TypeId} {x y : Operand} {z : Value} {size bytes : Nat} {k1 k2 : IntKind} {i j : Int} (n : Nat) (cs : List Value) (hT : P.underlying T = some (.slice E)) (hi : (P.info? E).map (fun i => (i.zero, i.size, i.bytes)) = some (some z, size, bytes)) (hn : i = n) (hn2 : j = n) (hb : bytes * n ≤ 281474976710656) (h63 : n ≤ maxLen) (hcs : (madeCells z.cells (n * size)).toList = cs)
  (k : ∀ b u1, Ext u u1 → u1.heap[b]? = some (.cells cs.toArray E (0, 0)) → u0.heap.size ≤ b → u.heap.size ≤ b → sym P ops w0 u0 true rest (S.set d (.v (.slice (some ⟨b, 0, none⟩) n n))) u1 K)
  (hw : Wants ops o S := by exact zwg xj) (hd : o.dst = some d := by kernel_rfl) (hop : o.op = .makeSlice T x y := by rfl) (hf : freeB S d = true := by kernel_rfl)
  (hx : evO S x = some (.v (.int k1 i)) := by rfl) (hy : evO S y = some (.v (.int k2 j)) := by rfl) : sym P ops w0 u0 true ((o, p) :: rest) S u K := by
 subst hcs hn hn2
 refine .inr (.inr (.inl ⟨.inl rfl, fun B a w u' he hrep => ⟨hw B a hrep.regs, ?_⟩⟩))
 have hrun := makes (P := P) (w := w) n hT hi hb h63 hop hx hy hrep.regs
 unfold Oper.wp
 rw [hrun]
 have hs : u'.heap.size = w.heap.size := hrep.dat.size
 have hv := (hrep.vis (.cells (madeCells z.cells (n * size)) E)).set (d := some d) (x := some (.v (.slice (some ⟨w.heap.size, 0, none⟩) n n))) (v := .slice (some ⟨w.heap.size, 0, none⟩) n n) (fun t e => by injection e with e; subst e; exact (zxy hd hf d hd).1) (fun z e => by injection e with e; rw [← e]; rfl) (fun z t e ht => by injection e with e; rw [← e] at ht; cases ht)
 refine ⟨S.set d (.v (.slice (some ⟨w.heap.size, 0, none⟩) n n)), B, u'.alloc (.cells (madeCells z.cells (n * size)) E), u'.alloc (.cells (madeCells z.cells (n * size)) E), ?_, (fun e => by cases e), (fun e => by cases e), Ext.refl _, k _ _ (he.trans (zxu _ _).ext) (by rw [← hs]; simpa using zxr u' (.cells (madeCells z.cells (n * size)) E)) (by rw [← hs]; exact hrep.grow.size) (by rw [← hs]; exact he.size)⟩
 rw [hd]
 exact hv
theorem zc_mem {z : Array Value} {n : Nat} {v : Value} (hz : 0 < z.size) (h : v ∈ (Builtin.zeroCells z n).toList) : v ∈ z.toList := by
 unfold Builtin.zeroCells at h
 rw [Array.toList_map, List.mem_map] at h
 obtain ⟨i, _, rfl⟩ := h
 have hi := Nat.mod_lt i hz
 rw [getElem!_pos z (i % z.size) hi]
 simp
theorem app_all {T E : TypeId} {z : Value} {size bytes n cap m c g c1 : Nat} {cs0 news : List Value} {ad : Addr} {ty : TypeId} {cs : Array Value} (q : Value → Prop) (hT : P.underlying T = some (.slice E)) (hi : (P.info? E).map (fun i => (i.zero, i.size, i.bytes)) = some (some z, size, bytes)) (hzs : z.cells.size = size) (hsz : 0 < size)
  (hub : w.heap[b]? = some (.cells cs0.toArray E (0, 0))) (hn : n ≤ cap) (hcl : cs0.length = cap * size) (hl : news.length = m * size) (hnews : ∀ j x, news[j]? = some x → w.cell? (ad.add j) = some x) (h1 : ∀ x ∈ news, x.oneCell' = true) (h63 : n + m ≤ maxLen) (hbytes : (n + m) * bytes ≤ 140737488355328)
  (hrun : (Builtin.append_ #[T, T] ty #[.slice (some ⟨b, 0, none⟩) n cap, .slice (some ad) m c]).run P w = .ok (.slice (some ⟨g, 0, none⟩) (n + m) c1) w') (hgv : w'.heap[g]? = some (.cells cs E (0, 0))) (q0 : ∀ v ∈ cs0, q v) (q1 : ∀ v ∈ news, q v) (q2 : ∀ v ∈ z.cells.toList, q v) : ∀ v ∈ cs.toList, q v := by
 obtain ⟨i, hi1, hz, hs, hby⟩ := info_parts hi
 have hle : n * size ≤ cs0.length := by rw [hcl]; exact Nat.mul_le_mul_right _ hn
 by_cases hroom : n + m ≤ cap
 ·have hr := run_append_room (P := P) w T ty E i hT hi1 b n cap cs0.toArray hub ad m c news (by rw [hs]; exact hl) hnews h1 hroom (by rw [hs, hl, List.size_toArray, hcl, ← Nat.add_mul]; exact Nat.mul_le_mul_right _ hroom)
  rw [hrun] at hr
  injection hr with hv hw2
  injection hv with ha _ _
  injection ha with ha
  injection ha with hg _ _
  subst hg
  subst hw2
  rw [setRow_heap w g cs0.toArray _ E _ hub] at hgv
  injection hgv with hgv
  injection hgv with hgv _ _
  intro v hv
  rw [← hgv] at hv
  simp only [List.mem_append] at hv
  rcases hv with (hv | hv) | hv
  ·exact q0 v (List.mem_of_mem_take hv)
  ·exact q1 v hv
  exact q0 v (List.mem_of_mem_drop hv)
 have hr := run_append_grow (P := P) w T ty E i z hT hi1 hz ⟨b, 0, none⟩ n cap (cs0.take (n * size)) (by rw [List.length_take, hs, Nat.min_eq_left hle]) (fun j x hx => by
   rw [addr_add, Nat.zero_add, cell_of_row w b j cs0.toArray E (0, 0) hub]
   rw [List.getElem?_take] at hx
   split at hx
   ·simpa using hx
   cases hx) ad m c news (by rw [hs]; exact hl) hnews xq (by unfold maxLen at h63; omega) (growslice_fits xq (by rw [hby]; exact hbytes))
 rw [hrun] at hr
 injection hr with hv hw2
 injection hv with ha _ _
 injection ha with ha
 injection ha with hg _ _
 subst hg
 subst hw2
 have h9 := zxr w.drew (.cells ((cs0.take (n * size)).toArray ++ news.toArray ++ Builtin.zeroCells z.cells (grownCap w (n + m) cap E - (n + m))) E)
 have h8 : w.drew.heap.size = w.heap.size := rfl
 rw [h8, hgv] at h9
 injection h9 with h9
 injection h9 with h9 _ _
 intro v hv
 rw [h9] at hv
 simp only [Array.toList_append, List.mem_append] at hv
 rcases hv with (hv | hv) | hv
 ·exact q0 v (List.mem_of_mem_take hv)
 ·exact q1 v hv
 exact q2 v (zc_mem xq hv)
theorem app_all0 {T E : TypeId} {z : Value} {size bytes m c g c1 : Nat} {news : List Value} {ad : Addr} {ty : TypeId} {cs : Array Value} (q : Value → Prop) (hT : P.underlying T = some (.slice E)) (hi : (P.info? E).map (fun i => (i.zero, i.size, i.bytes)) = some (some z, size, bytes)) (hzs : z.cells.size = size) (hsz : 0 < size)
  (hl : news.length = m * size) (hnews : ∀ j x, news[j]? = some x → w.cell? (ad.add j) = some x) (hm : 0 < m) (h63 : m ≤ maxLen) (hbytes : m * bytes ≤ 140737488355328)
  (hrun : (Builtin.append_ #[T, T] ty #[.slice none 0 0, .slice (some ad) m c]).run P w = .ok (.slice (some ⟨g, 0, none⟩) m c1) w') (hgv : w'.heap[g]? = some (.cells cs E (0, 0))) (q1 : ∀ v ∈ news, q v) (q2 : ∀ v ∈ z.cells.toList, q v) : ∀ v ∈ cs.toList, q v := by
 obtain ⟨i, hi1, hz, hs, hby⟩ := info_parts hi
 have hr := run_append_nil (P := P) w T ty E i z hT hi1 hz ad m c news (by rw [hs]; exact hl) hnews hm (by unfold maxLen at h63; omega) (by rw [hby]; omega)
 rw [hrun] at hr
 injection hr with hv hw2
 injection hv with ha _ _
 injection ha with ha
 injection ha with hg _ _
 subst hg
 subst hw2
 have h9 := zxr w.drew (.cells (news.toArray ++ Builtin.zeroCells z.cells (grownCap w m 0 E - m)) E)
 have h8 : w.drew.heap.size = w.heap.size := rfl
 rw [h8, hgv] at h9
 injection h9 with h9
 injection h9 with h9 _ _
 intro v hv
 rw [h9] at hv
 simp only [Array.toList_append, List.mem_append] at hv
 rcases hv with hv | hv
 ·exact q1 v hv
 exact q2 v (zc_mem xq hv)
theorem sy_appDp (d : Tmp) {T E : TypeId} {s x : Operand} {z : Value} {size bytes : Nat} {b2 off m c n cap : Nat} {cs0 : List Value} (news : List Value) (hT : P.underlying T = some (.slice E)) (hi : (P.info? E).map (fun i => (i.zero, i.size, i.bytes)) = some (some z, size, bytes)) (hzs : z.cells.size = size) (hsz : 0 < size)
  (hl : news.length = m * size) (hnews : ∀ j v, news[j]? = some v → u.cell? ⟨b2, off + j, none⟩ = some v) (h1 : ∀ v ∈ news, v.oneCell' = true) (hm : 0 < m) (h63 : n + m ≤ maxLen) (hbytes : (n + m) * bytes ≤ 140737488355328)
  (hn : n ≤ cap) (hcap : cap ≤ maxLen) (hcl : cs0.length = cap * size) (hub : u.heap[b]? = some (.cells cs0.toArray E (0, 0))) (hb : MayB w0 u0 b)
  (k : ∀ (g c1 : Nat) (cs : List Value) (u1 : World), n + m ≤ c1 → c1 ≤ maxLen → cs.length = c1 * size → cs.take ((n + m) * size) = cs0.take (n * size) ++ news → u1.heap[g]? = some (.cells cs.toArray E (0, 0)) → (g = b ∨ u.heap.size ≤ g) → ExtB b u u1 → (∀ q : Value → Prop, (∀ v ∈ cs0, q v) → (∀ v ∈ news, q v) → (∀ v ∈ z.cells.toList, q v) → ∀ v ∈ cs, q v) → sym P ops w0 u0 true rest (S.set d (.v (.slice (some ⟨g, 0, none⟩) (n + m) c1))) u1 K)
  (hw : Wants ops o S := by exact zwg xj) (hd : o.dst = some d := by kernel_rfl) (hop : o.op = .call { callee := .builtin .append, args := #[s, x], argTypes := #[T, T] } := by rfl) (hf : freeB S d = true := by kernel_rfl)
  (hs : evO S s = some (.v (.slice (some ⟨b, 0, none⟩) n cap)) := by rfl) (hx : evO S x = some (.v (.slice (some ⟨b2, off, none⟩) m c)) := by rfl) : sym P ops w0 u0 true ((o, p) :: rest) S u K := by
 refine .inr (.inr (.inl ⟨.inl rfl, fun B a w u' he hrep => ⟨hw B a hrep.regs, ?_⟩⟩))
 have hub' := he.cells hub
 have hwb := hrep.dat.ext.cells hub'
 have hltu := zxa hub'
 have hus : u'.heap.size = w.heap.size := hrep.dat.size
 obtain ⟨g, c1, cs, w', hrun, hgv, k1, k2, k3, k4, k5, k6⟩ := run_app (P := P) (u0 := { w with heap := #[] }) (w := w) (v := .slice (some ⟨b, 0, none⟩) n cap) (n := n) (xs := cs0.take (n * size)) (ad := ⟨b2, off, none⟩) (c := c) hT hi hzs hsz
  ⟨by rw [List.length_take, hcl]; exact Nat.min_eq_left (Nat.mul_le_mul_right _ hn), .inr ⟨b, cap, cs0.toArray, rfl, Nat.zero_le _, hwb, hn, hcap, by simpa using hcl, by simp⟩⟩ hl (fun j v hv => by rw [addr_add]; exact hrep.dat.ext.cell (he.cell (hnews j v hv))) h1 hm h63 hbytes (Nat.zero_le _) o.type
 unfold Oper.wp execOp
 simp only [hop, resolve, invoke, builtin, Sem.run_bind, Sem.run_pure, Result.andThen_ok, List.map_toArray, List.map_cons, List.map_nil, ev_of hrep.regs hs, ev_of hrep.regs hx, SV.conc, hrun]
 have aa : u'.heap.size ≤ w'.heap.size := by rw [hus]; exact k5.size
 have hgb : g = b ∨ g = w.heap.size := by
  rcases k6 with k6 | k6
  ·have : some b = some g := k6
   injection this with this; exact .inl this.symm
  exact .inr k6
 have hgw := zxa hgv
 have hcs : w'.heap[g]? = some (.cells cs.toList.toArray E (0, 0)) := by simpa using hgv
 have hkey : ∀ k, k < u'.heap.size → k ≠ b → w'.heap[k]? = w.heap[k]? := fun k hk hne => k5.block k xq (fun e => hne (by have : some k = some b := e; injection this))
 have hbw : b < w'.heap.size := by omega
 have hgl : g < (setW (hide u' w') b hidO).heap.size := by rw [setW_size, zwp aa]; exact hgw
 have hold : ∀ k, k < u'.heap.size → k ≠ b → (grownW u' w' b g (.cells cs.toList.toArray E (0, 0))).heap[k]? = u'.heap[k]? := fun k hk hne => by
  unfold grownW
  rw [setW_ne (by rcases hgb with h | h <;> omega), setW_ne hne, hide_old hk]
 have hdat : Dat (grownW u' w' b g (.cells cs.toList.toArray E (0, 0))) w' := by
  refine ⟨grownW_size aa, fun k ob hk hh => ?_⟩
  by_cases e : k = g
  ·subst e
   unfold grownW at hk
   rw [setW_eq hgl] at hk
   rw [hcs]; exact hk
  unfold grownW at hk
  rw [setW_ne e] at hk
  by_cases e2 : k = b
  ·subst e2
   rw [setW_eq (by rw [zwp aa]; exact hbw)] at hk
   injection hk with hk; exact absurd hk.symm hh
  rw [setW_ne e2] at hk
  rcases Nat.lt_or_ge k u'.heap.size with hlt | hge
  ·rw [hide_old hlt] at hk
   rw [hkey k hlt e2]; exact hrep.dat.vis k ob hk hh
  have := zxa hk
  rw [zwp aa] at this
  rw [hide_new hge this] at hk
  injection hk with hk; exact absurd hk.symm hh
 have hgr : GrowF [b] u' (grownW u' w' b g (.cells cs.toList.toArray E (0, 0))) := ⟨by rw [grownW_size aa]; exact aa, fun k hk hf => hold k hk (by simpa using hf)⟩
 have hr1 := hrep.mut (F := [b]) (fun b' hm => by simp at hm; subst hm; exact ⟨hb, _, hub', by unfold hidO; intro e; cases e⟩) hdat ⟨k5.os, k5.tape, k5.output, k5.size, fun k hk _ hf => hkey k (by rw [hus]; exact hk) (by simpa using hf)⟩ hgr
 have hr2 := hr1.set (d := o.dst) (x := some (.v (.slice (some ⟨g, 0, none⟩) (n + m) c1))) (v := .slice (some ⟨g, 0, none⟩) (n + m) c1) (fun s hs => (zxy hd hf s hs).1) (fun z e => by injection e with e; rw [← e]; rfl) (fun z t e ht => by injection e with e; rw [← e] at ht; cases ht)
 show ∃ S' B' u'' u2, Rep w0 u0 S' B' (a.put o.dst _) w' u'' ∧ _
 refine ⟨_, B, _, _, hr2, (fun e => by cases e), (fun e => by cases e), Ext.refl _, ?_⟩
 rw [hd]
 exact k g c1 cs.toList _ k1 k2 k3 k4 (by unfold grownW; rw [setW_eq hgl]) (by have := he.size; omega) (ExtF.toB (.pre he hgr.extF)) (fun q q0 q1 q2 => app_all q hT hi hzs hsz hwb hn hcl hl (fun j v hv => by rw [addr_add]; exact hrep.dat.ext.cell (he.cell (hnews j v hv))) h1 h63 hbytes hrun hgv q0 q1 q2)
theorem sy_appD (d : Tmp) {T E : TypeId} {s x : Operand} {z : Value} {size bytes : Nat} {b2 off m c n cap : Nat} {cs0 : List Value} (news : List Value) (hT : P.underlying T = some (.slice E)) (hi : (P.info? E).map (fun i => (i.zero, i.size, i.bytes)) = some (some z, size, bytes)) (hzs : z.cells.size = size) (hsz : 0 < size)
  (hl : news.length = m * size) (hnews : ∀ j v, news[j]? = some v → u.cell? ⟨b2, off + j, none⟩ = some v) (h1 : ∀ v ∈ news, v.oneCell' = true) (hm : 0 < m) (h63 : n + m ≤ maxLen) (hbytes : (n + m) * bytes ≤ 140737488355328)
  (hn : n ≤ cap) (hcap : cap ≤ maxLen) (hcl : cs0.length = cap * size) (hub : u.heap[b]? = some (.cells cs0.toArray E (0, 0))) (hb : MayB w0 u0 b)
  (k : ∀ (g c1 : Nat) (cs : List Value) (u1 : World), n + m ≤ c1 → c1 ≤ maxLen → cs.length = c1 * size → cs.take ((n + m) * size) = cs0.take (n * size) ++ news → u1.heap[g]? = some (.cells cs.toArray E (0, 0)) → (g = b ∨ u.heap.size ≤ g) → ExtB b u u1 → sym P ops w0 u0 true rest (S.set d (.v (.slice (some ⟨g, 0, none⟩) (n + m) c1))) u1 K)
  (hw : Wants ops o S := by exact zwg xj) (hd : o.dst = some d := by kernel_rfl) (hop : o.op = .call { callee := .builtin .append, args := #[s, x], argTypes := #[T, T] } := by rfl) (hf : freeB S d = true := by kernel_rfl)
  (hs : evO S s = some (.v (.slice (some ⟨b, 0, none⟩) n cap)) := by rfl) (hx : evO S x = some (.v (.slice (some ⟨b2, off, none⟩) m c)) := by rfl) : sym P ops w0 u0 true ((o, p) :: rest) S u K :=
 sy_appDp d news hT hi hzs hsz hl hnews h1 hm h63 hbytes hn hcap hcl hub hb (fun g c1 cs u1 a1 a2 a3 a4 a5 a6 a7 _ => k g c1 cs u1 a1 a2 a3 a4 a5 a6 a7) hw hd hop hf hs hx
theorem sy_appD0p (d : Tmp) {T E : TypeId} {s x : Operand} {z : Value} {size bytes : Nat} {b2 off m c : Nat} (news : List Value) (hT : P.underlying T = some (.slice E)) (hi : (P.info? E).map (fun i => (i.zero, i.size, i.bytes)) = some (some z, size, bytes)) (hzs : z.cells.size = size) (hsz : 0 < size)
  (hl : news.length = m * size) (hnews : ∀ j v, news[j]? = some v → u.cell? ⟨b2, off + j, none⟩ = some v) (h1 : ∀ v ∈ news, v.oneCell' = true) (hm : 0 < m) (h63 : m ≤ maxLen) (hbytes : m * bytes ≤ 140737488355328)
  (k : ∀ (g c1 : Nat) (cs : List Value) (u1 : World), m ≤ c1 → c1 ≤ maxLen → cs.length = c1 * size → cs.take (m * size) = news → u1.heap[g]? = some (.cells cs.toArray E (0, 0)) → u.heap.size ≤ g → u0.heap.size ≤ g → Ext u u1 → (∀ q : Value → Prop, (∀ v ∈ news, q v) → (∀ v ∈ z.cells.toList, q v) → ∀ v ∈ cs, q v) → sym P ops w0 u0 true rest (S.set d (.v (.slice (some ⟨g, 0, none⟩) m c1))) u1 K)
  (hw : Wants ops o S := by exact zwg xj) (hd : o.dst = some d := by kernel_rfl) (hop : o.op = .call { callee := .builtin .append, args := #[s, x], argTypes := #[T, T] } := by rfl) (hf : freeB S d = true := by kernel_rfl)
  (hs : evO S s = some (.v (.slice none 0 0)) := by rfl) (hx : evO S x = some (.v (.slice (some ⟨b2, off, none⟩) m c)) := by rfl) : sym P ops w0 u0 true ((o, p) :: rest) S u K := by
 refine .inr (.inr (.inl ⟨.inl rfl, fun B a w u' he hrep => ⟨hw B a hrep.regs, ?_⟩⟩))
 have hus : u'.heap.size = w.heap.size := hrep.dat.size
 obtain ⟨g, c1, cs, w', hrun, hgv, k1, k2, k3, k4, k5, k6⟩ := run_app (P := P) (u0 := { w with heap := #[] }) (w := w) (v := .slice none 0 0) (n := 0) (xs := []) (ad := ⟨b2, off, none⟩) (c := c) hT hi hzs hsz
  ⟨by simp, .inl ⟨rfl, rfl⟩⟩ hl (fun j v hv => by rw [addr_add]; exact hrep.dat.ext.cell (he.cell (hnews j v hv))) h1 hm (by rw [Nat.zero_add]; exact h63) (by rw [Nat.zero_add]; exact hbytes) (Nat.zero_le _) o.type
 rw [Nat.zero_add] at hrun k1 k4
 unfold Oper.wp execOp
 simp only [hop, resolve, invoke, builtin, Sem.run_bind, Sem.run_pure, Result.andThen_ok, List.map_toArray, List.map_cons, List.map_nil, ev_of hrep.regs hs, ev_of hrep.regs hx, SV.conc, hrun]
 have aa : u'.heap.size ≤ w'.heap.size := by rw [hus]; exact k5.size
 have hge : g = w.heap.size := by
  rcases k6 with k6 | k6
  ·cases k6
  exact k6
 have hgw := zxa hgv
 have hcs : w'.heap[g]? = some (.cells cs.toList.toArray E (0, 0)) := by simpa using hgv
 have hkey : ∀ k, k < u'.heap.size → w'.heap[k]? = w.heap[k]? := fun k hk => k5.block k xq (fun e => by cases e)
 have hgl : g < (hide u' w').heap.size := by rw [zwp aa]; exact hgw
 have hold : ∀ k, k < u'.heap.size → (setW (hide u' w') g (.cells cs.toList.toArray E (0, 0))).heap[k]? = u'.heap[k]? := fun k hk => by
  rw [setW_ne xq, hide_old hk]
 have hdat : Dat (setW (hide u' w') g (.cells cs.toList.toArray E (0, 0))) w' := by
  refine ⟨by rw [setW_size, zwp aa], fun k ob hk hh => ?_⟩
  by_cases e : k = g
  ·subst e
   rw [setW_eq hgl] at hk
   rw [hcs]; exact hk
  rw [setW_ne e] at hk
  rcases Nat.lt_or_ge k u'.heap.size with hlt | hge
  ·rw [hide_old hlt] at hk
   rw [hkey k hlt]; exact hrep.dat.vis k ob hk hh
  have := zxa hk
  rw [zwp aa] at this
  rw [hide_new hge this] at hk
  injection hk with hk; exact absurd hk.symm hh
 have hgr : GrowF [] u' (setW (hide u' w') g (.cells cs.toList.toArray E (0, 0))) := ⟨by rw [setW_size, zwp aa]; exact aa, fun k hk _ => hold k hk⟩
 have hr1 := hrep.mut (F := []) (fun b' hm => by cases hm) hdat ⟨k5.os, k5.tape, k5.output, k5.size, fun k hk _ _ => hkey k (by rw [hus]; exact hk)⟩ hgr
 have hr2 := hr1.set (d := o.dst) (x := some (.v (.slice (some ⟨g, 0, none⟩) m c1))) (v := .slice (some ⟨g, 0, none⟩) m c1) (fun s hs => (zxy hd hf s hs).1) (fun z e => by injection e with e; rw [← e]; rfl) (fun z t e ht => by injection e with e; rw [← e] at ht; cases ht)
 show ∃ S' B' u'' u2, Rep w0 u0 S' B' (a.put o.dst _) w' u'' ∧ _
 refine ⟨_, B, _, _, hr2, (fun e => by cases e), (fun e => by cases e), Ext.refl _, ?_⟩
 rw [hd]
 have hs1 := he.size
 have hs2 := hrep.grow.size
 exact k g c1 cs.toList _ k1 k2 k3 (by simpa using k4) (setW_eq hgl) xq xq (he.trans hgr.nil.ext) (fun q q1 q2 => app_all0 q hT hi hzs hsz hl (fun j v hv => by rw [addr_add]; exact hrep.dat.ext.cell (he.cell (hnews j v hv))) hm h63 hbytes hrun hgv q1 q2)
theorem sy_appD0 (d : Tmp) {T E : TypeId} {s x : Operand} {z : Value} {size bytes : Nat} {b2 off m c : Nat} (news : List Value) (hT : P.underlying T = some (.slice E)) (hi : (P.info? E).map (fun i => (i.zero, i.size, i.bytes)) = some (some z, size, bytes)) (hzs : z.cells.size = size) (hsz : 0 < size)
  (hl : news.length = m * size) (hnews : ∀ j v, news[j]? = some v → u.cell? ⟨b2, off + j, none⟩ = some v) (h1 : ∀ v ∈ news, v.oneCell' = true) (hm : 0 < m) (h63 : m ≤ maxLen) (hbytes : m * bytes ≤ 140737488355328)
  (k : ∀ (g c1 : Nat) (cs : List Value) (u1 : World), m ≤ c1 → c1 ≤ maxLen → cs.length = c1 * size → cs.take (m * size) = news → u1.heap[g]? = some (.cells cs.toArray E (0, 0)) → u.heap.size ≤ g → u0.heap.size ≤ g → Ext u u1 → sym P ops w0 u0 true rest (S.set d (.v (.slice (some ⟨g, 0, none⟩) m c1))) u1 K)
  (hw : Wants ops o S := by exact zwg xj) (hd : o.dst = some d := by kernel_rfl) (hop : o.op = .call { callee := .builtin .append, args := #[s, x], argTypes := #[T, T] } := by rfl) (hf : freeB S d = true := by kernel_rfl)
  (hs : evO S s = some (.v (.slice none 0 0)) := by rfl) (hx : evO S x = some (.v (.slice (some ⟨b2, off, none⟩) m c)) := by rfl) : sym P ops w0 u0 true ((o, p) :: rest) S u K :=
 sy_appD0p d news hT hi hzs hsz hl hnews h1 hm h63 hbytes (fun g c1 cs u1 a1 a2 a3 a4 a5 a6 a7 a8 _ => k g c1 cs u1 a1 a2 a3 a4 a5 a6 a7 a8) hw hd hop hf hs hx
theorem Left.step {M : List Nat} {pre post : List (Nat × List Tmp)} {y : Nat × List Tmp} {listed : Array Bool} (hL : Left ops M (pre ++ y :: post) listed) (hro : ∀ j, (M.getD y.1 0).testBit j = true → j ∉ (pre ++ y :: post).map (·.1)) : Left ops M (pre ++ post) (listed.setIfInBounds y.1 true) := by
 have hsub : (pre ++ post).Sublist (pre ++ y :: post) := List.Sublist.append_left (List.sublist_cons_self _ _) _
 have hyn : y.1 ∉ (pre ++ post).map (·.1) := by
  have := hL.nodup
  rw [List.map_append, List.map_cons] at this
  have h2 := List.nodup_append.1 this
  have h3 := (List.nodup_cons.1 h2.2.1).1
  intro hm
  rw [List.map_append] at hm
  rcases List.mem_append.1 hm with hm | hm
  ·exact h2.2.2 y.1 hm y.1 (List.mem_cons_self ..) rfl
  exact h3 hm
 have hmem : ∀ j, j ≠ y.1 → (j ∈ (pre ++ post).map (·.1) ↔ j ∈ (pre ++ y :: post).map (·.1)) := fun j hj => by simp [hj]
 refine ⟨hL.nodup.sublist (hsub.map _), hL.pair.sublist hsub, by simp [hL.size], fun j hj => ?_, fun x hx => hL.lt x (hsub.mem hx), fun x hx => hL.mask x (hsub.mem hx), fun j hj hjn x hx => ?_⟩
 ·by_cases e : j = y.1
  ·subst e
   constructor
   ·intro h
    simp [hL.size, hj] at h
   intro h; exact absurd h hyn
  rw [getD_set_ne true (Ne.symm e), hmem j e]
  exact hL.mem j hj
 intro hmx
 by_cases e : j = y.1
 ·subst e; exact hro x hx ((hsub.map _).mem hmx)
 exact hL.closed j hj (fun h => hjn ((hmem j e).2 h)) x hx ((hsub.map _).mem hmx)
def chainB (M : List Nat) : List (Nat × List Tmp) → Bool
 | [] => true
 | x :: l => l.all (fun y => (M.getD y.1 0).testBit x.1) && chainB M l
theorem any_chain {M : List Nat} {Q : Exit → Act → World → Prop} : ∀ (T : List (Nat × List Tmp)) (listed : Array Bool) (a : Act) (w : World), Left ops M T listed → chainB M T = true →
  wpList P ops Q (T.map fun x => ops.getD x.1 default) a w → wpAny P .any ops Q T.length listed a w := by
 intro T
 induction T with
 | nil =>
  intro listed a w hL _ h
  refine ⟨?_, h⟩
  cases e : Region.ready .any ops listed with
  | nil => rfl
  | cons i l =>
   have := (hL.ready_mem (i := i) (by rw [e]; exact List.mem_cons_self ..)).2.1
   simp at this
 | cons y T ih =>
  intro listed a w hL hc h
  simp only [chainB, Bool.and_eq_true] at hc
  refine ⟨fun e => ?_, fun i hi => ?_⟩
  ·have := hL.head_ready
   rw [e] at this
   cases this
  obtain ⟨hlt, hm, hout⟩ := hL.ready_mem hi
  obtain ⟨x, hx, rfl⟩ := List.mem_map.1 hm
  have hro := reach_out hL hx hout
  have hxy : x = y := by
   rcases List.mem_cons.1 hx with rfl | hx'
   ·rfl
   exact absurd (List.mem_map.2 ⟨y, List.mem_cons_self .., rfl⟩) (hro y.1 (List.all_eq_true.1 hc.1 x hx'))
  subst hxy
  have hL' : Left ops M T (listed.setIfInBounds x.1 true) := by
   have := Left.step (pre := []) (post := T) hL hro
   exact this
  have key : ops[x.1]? = some (opAt ops x).1 := get_op hlt
  simp only [wpOp, key]
  simp only [List.map_cons] at h
  unfold wpList at h
  have h : if Region.wanted (opAt ops x).1 (yielded ops a.tmps) = true then (opAt ops x).1.wp P a w (wpList P ops Q (T.map fun x => ops.getD x.1 default)) Q ∨ ((opAt ops x).1.asks P a w ∧ LetsOut Q) else wpList P ops Q (T.map fun x => ops.getD x.1 default) (a.put (opAt ops x).1.dst undef) w := h
  split
  ·rename_i hw
   rw [if_pos hw] at h
   exact h.imp (Oper.wp_mono fun a w h => ih _ a w hL' hc.2 h) id
  rename_i hw
  rw [if_neg hw] at h
  exact ih _ _ w hL' hc.2 h
theorem any_symT {M : List Nat} {T : List (Nat × List Tmp)} {Q : Exit → Act → World → Prop} (hK : Mono K) (hc : chainB M T = true) (hQ : ∀ S u, K S u → ∀ B a w, Rep w0 u0 S B a w u → wpList P ops Q (T.map fun x => ops.getD x.1 default) a w) :
  ∀ (fuel : Nat) (L : List (Nat × List Tmp)) (listed : Array Bool) (S : St) (B : Tmp → Nat) (a : Act) (w u : World), L.length = fuel → Left ops M (L ++ T) listed → (∀ x ∈ L, ∀ y ∈ T, (M.getD y.1 0).testBit x.1 = true) → Rep w0 u0 S B a w u →
   sym P ops w0 u0 false (L.map (opAt ops)) S u K → wpAny P .any ops Q (fuel + T.length) listed a w := by
 intro fuel
 induction fuel with
 | zero =>
  intro L listed S B a w u hl hL _ hr hs
  obtain rfl := List.length_eq_zero_iff.1 hl
  rw [Nat.zero_add]
  exact any_chain T listed a w hL hc (hQ S u hs B a w hr)
 | succ fuel ih =>
  intro L listed S B a w u hl hL hT hr hs
  rw [Nat.succ_add]
  refine ⟨fun e => ?_, fun i hi => ?_⟩
  ·cases L with
   | nil => cases hl
   | cons x L =>
    have := Left.head_ready (L := L ++ T) hL
    rw [e] at this
    cases this
  obtain ⟨hlt, hm, hout⟩ := hL.ready_mem hi
  obtain ⟨y, hy, rfl⟩ := List.mem_map.1 hm
  have hro := reach_out hL hy hout
  have hyL : y ∈ L := by
   rcases List.mem_append.1 hy with h | h
   ·exact h
   cases L with
   | nil => cases hl
   | cons x L => exact absurd zz (hro x.1 (hT x (List.mem_cons_self ..) y h))
  obtain ⟨pre, post, rfl⟩ := List.append_of_mem hyL
  have hsw : ∀ x ∈ pre.map (opAt ops), swapOk ops x (opAt ops y) = true := by
   intro x hx
   obtain ⟨x', hx', rfl⟩ := List.mem_map.1 hx
   have hp := hL.pair
   rw [List.append_assoc, List.cons_append] at hp
   have := (List.pairwise_append.1 hp).2.2 x' hx' y (List.mem_cons_self ..)
   simp only [pairOk, Bool.and_eq_true, Bool.or_eq_true] at this
   rcases this.1 with h1 | h1
   ·exact absurd (List.mem_map.2 ⟨x', by simp [hx'], rfl⟩) (hro x'.1 h1)
   exact h1
  rw [List.map_append, List.map_cons] at hs
  have hone := bubble hK (pre.map (opAt ops)) S u hr.wf hsw hs
  have hsound := one_sound (Q := Q) (zwd hK) hone (Ext.refl _) hr
  have hL' : Left ops M ((pre ++ post) ++ T) (listed.setIfInBounds y.1 true) := by
   have e1 : (pre ++ y :: post) ++ T = pre ++ y :: (post ++ T) := by simp
   rw [e1] at hL hro
   have := Left.step hL hro
   rw [List.append_assoc]; exact this
  have hfin : ∀ a' w', (∃ S' B' u'', Rep w0 u0 S' B' a' w' u'' ∧ (false = false → Ext u u'') ∧ sym P ops w0 u0 false (pre.map (opAt ops) ++ post.map (opAt ops)) S' u'' K) → wpAny P .any ops Q (fuel + T.length) (listed.setIfInBounds y.1 true) a' w' := by
   rintro a' w' ⟨S', B', u'', g1, _, g3⟩
   refine ih (pre ++ post) _ S' B' a' w' u'' (by simp at hl ⊢; omega) hL' (fun x hx => hT x (by simp at hx ⊢; rcases hx with h | h <;> simp [h])) g1 ?_
   rw [List.map_append]; exact g3
  have key : ops[y.1]? = some (opAt ops y).1 := get_op hlt
  simp only [wpOp, key]
  split
  ·rename_i hw
   rw [if_pos hw] at hsound
   exact .inl (Oper.wp_mono hfin hsound)
  rename_i hw
  rw [if_neg hw] at hsound
  exact hfin _ _ hsound
def tailB (M : List Nat) (L T : List (Nat × List Tmp)) : Bool := L.all (fun x => T.all fun y => (M.getD y.1 0).testBit x.1) && chainB M T
theorem sw_anyC {id : Nat} {Q : MP} (M : List Nat) (q T : List (Nat × List Tmp)) (hm : P.follows .mixedOrders = true) (hok : regOk ops M (q ++ T) = true) (ht : tailB M q T = true)
  (h : sym P ops w0 u0 false (q.map (opAt ops)) S u (fun S' u' => sym P ops w0 u0 true (T.map fun x => (ops.getD x.1 default, [])) S' u' (Q.f .normal))) : SW P w0 u0 (.region id ops true) S u Q := by
 intro B a w u' e hr
 simp only [regOk, Bool.and_eq_true, beq_iff_eq, List.all_eq_true] at hok
 obtain ⟨⟨⟨⟨h1, h2⟩, h5⟩, h3⟩, h4⟩ := hok
 simp only [tailB, Bool.and_eq_true, List.all_eq_true] at ht
 have hnd := nodupB_spec h2
 have hall : ∀ i, i < ops.size → i ∈ (q ++ T).map (·.1) := fun i hi => List.contains_iff_mem.1 (h5 i (by simpa using hi))
 have hK : Mono (fun S' u' => sym P ops w0 u0 true (T.map fun x => (ops.getD x.1 default, ([] : List Tmp))) S' u' (Q.f .normal)) := zwd (Q.mono _)
 have hs : ops.size = q.length + T.length := by rw [← h1, List.length_append]
 refine wp_region_any hm ?_
 rw [hs]
 have hlist : Left ops M (q ++ T) (Array.replicate (q.length + T.length) false) := by
  rw [← hs]
  refine ⟨hnd, pairsOk_spec h4, by simp, fun i hi => ?_, fun x hx => ?_, fun x hx => (h3 x hx).2, fun j hj hjn => absurd (hall j hj) hjn⟩
  ·simp only [Array.getD_eq_getD_getElem?]
   rw [Array.getElem?_eq_getElem (by simpa using hi)]
   simp only [Array.getElem_replicate, Option.getD_some, true_iff]
   exact hall i hi
  obtain ⟨⟨g1, g2⟩, g3⟩ := h3 x hx
  refine ⟨by simpa using g1, fun e he hb => ?_⟩
  simp only [Bool.not_eq_true', List.any_eq_false] at g2
  have := g2 e (by simpa using he)
  simp [hb] at this
  exact this
 refine any_symT hK ht.2 (fun S u'' h B a w hr => ?_) q.length q _ S B a _ u' rfl hlist (fun x hx y hy => ht.1 x hx y hy) hr.drew (zwd hK _ _ _ e h)
 have := sl_key (Q := fun e a' w' => ∃ S' B' u'', Rep w0 u0 S' B' a' w' u'' ∧ Q.f e S' u'') (K := Q.f .normal) (Q.mono _) [] (fun S u h B a w hr => by exact ⟨S, B, u, hr, h⟩) (T.map fun x => ops.getD x.1 default) S B a w u'' hr (by rw [List.map_map]; exact h)
 rw [List.append_nil] at this
 exact this
end
structure PL where
 o : Int
 g : Int
 h : Int
def PL.cs (p : PL) : List Value := [.int .i64 p.o, .int .i64 p.g, .int .i64 p.h]
@[reducible] def PL.v (p : PL) : Value := .agg #[.int .i64 p.o, .int .i64 p.g, .int .i64 p.h]
def pl0 : PL := ⟨0, 0, 0⟩
section
variable {u u' w w' : World} {L M : List PL} {p : PL} {n i c b off K : Nat} {x y : Sl}
theorem ints_data {cs : List Value} {t : TypeId} {l : List Int} (h : u.heap[b]? = some (.cells cs.toArray t (0, 0))) (hc : cs.take n = l.map (Value.int .i64)) (hl : cs.length = c) (hn : n ≤ c) (hm : c ≤ maxLen) : SlR .i64 u (some ⟨b, 0, none⟩) n c l := by
 have hlen : l.length = n := by have h9 := congrArg List.length hc; simp at h9; omega
 refine ⟨hlen, hn, hm, fun hp => ⟨b, 0, rfl, zxa h, fun i hi => ?_⟩⟩
 rw [Nat.zero_add, cells_at h]
 have h9 : (cs.take n)[i]? = (l.map (Value.int .i64))[i]? := by rw [hc]
 rw [List.getElem?_take_of_lt hi, List.getElem?_map, List.getElem?_eq_getElem (by omega : i < l.length)] at h9
 simp
 rw [h9, List.getElem?_eq_getElem (by omega : i < l.length)]
 rfl
end
section
variable {P : Program} {ops : Array Oper} {w0 : Base} {u0 : World} {S : St} {u u' w : World} {o : Oper} {p : List Tmp} {seq : Bool} {rest : List (Oper × List Tmp)} {K : St → World → Prop}
theorem sy_conv (d : Tmp) {src dst : TypeId} {x : Operand} {k0 k : IntKind} {n : Int} (v : Int) (hT : ∀ w, (convert src dst (.int k0 n)).run P w = .ok (.int k (k.wrap n)) w) (hv : k.wrap n = v) (kk : sym P ops w0 u0 seq rest (S.set d (.v (.int k v))) u K) (hw : Wants ops o S := by exact zwg xj) (hd : o.dst = some d := by kernel_rfl) (hop : o.op = .convert src dst x := by rfl) (hf : freeB S d = true := by kernel_rfl)
  (hx : evO S x = some (.v (.int k0 n)) := by rfl) : sym P ops w0 u0 seq ((o, p) :: rest) S u K := by
 subst hv
 refine .inl ⟨by rw [hop]; exact (by decide : (0 : Nat) ≠ 2), .set (.v (.int k (k.wrap n))), ⟨zxy hd hf, .inl ⟨(fun t ht => by cases ht), fun B a w u' hr he hdt => ⟨hw B a hr, ?_⟩⟩⟩, ?_⟩
 ·have e1 : (execOp a.eval o).run P w = (do pure (Next.value (← convert src dst (a.eval x))) : Sem Next).run P w := by unfold execOp; rw [hop]
  rw [e1, ev_eval hr hx]
  exact run_val (hT w)
 show sym P ops w0 u0 seq rest (S.put o.dst (some _)) u K
 rw [hd]; exact kk
theorem unwantedU {g : Nat} {b : Bool} {t : Tmp} (h : o.guard = some (g, b)) (ht : (ops[g]?).bind (·.dst) = some t) (hS : S.reg t = some (.v undef)) : ∀ B a, RegOK S B a → Want ops o a false := fun B a hr => by
 have := hr.reg t _ hS
 simp [Want, Region.wanted, h, yielded, ht, this, SV.conc, undef]
end
section
variable {u u' : World} {A : Option Addr} {n c i : Nat} {l : List Int} {k : IntKind}
theorem ints_at (h : SlR k u A n c l) (hi : i < n) : ∃ b o, A = some ⟨b, o, none⟩ ∧ u.cell? ⟨b, o + i * 1, none⟩ = some (.int k (l.getD i 0)) := by
 obtain ⟨h1, h2, h3, h4⟩ := h
 obtain ⟨b, o, e, _, hc⟩ := h4 xq
 exact ⟨b, o, e, by rw [Nat.mul_one]; exact hc i hi⟩
theorem ints_bd {lo hi : Int} (h : ∀ z ∈ l, lo ≤ z ∧ z ≤ hi) (h0 : lo ≤ 0 ∧ 0 ≤ hi) (i : Nat) : lo ≤ l.getD i 0 ∧ l.getD i 0 ≤ hi := by
 rw [List.getD_eq_getElem?_getD]
 cases e : l[i]? with
 | none => exact h0
 | some z => exact h z (List.mem_of_getElem? e)
end
structure WL where
 b : Int
 f : Int
 r : Int
 o : Int
@[reducible] def WL.v (w : WL) : Value := .agg #[.int .i64 w.b, .int .i64 w.f, .int .i64 w.r, .int .i64 w.o]
def WL.cs (w : WL) : List Value := [.int .i64 w.b, .int .i64 w.f, .int .i64 w.r, .int .i64 w.o]
def WdOK (w : WL) : Prop := 4 ≤ w.b ∧ w.b ≤ 24 ∧ 0 ≤ w.f ∧ w.f < w.b ∧ 1 ≤ w.r ∧ w.r ≤ 3 ∧ 1 ≤ w.o ∧ w.o ≤ 2
def CoefOK (w : WL) : Prop := 6 ≤ w.b ∧ w.b ≤ 9 ∧ 3 ≤ w.f ∧ w.f + 2 ≤ w.b ∧ 1 ≤ w.r ∧ w.r ≤ 3 ∧ 1 ≤ w.o ∧ w.o ≤ 2
theorem CoefOK.ok {w : WL} (h : CoefOK w) : WdOK w := by unfold CoefOK at h; unfold WdOK; omega
namespace Nt
def p2i (n : Int) : Int := 2 ^ n.toNat
theorem zxp (n : Int) : 0 < p2i n := Int.pow_pos yz
theorem zwe {a b : Int} (h : a ≤ b) : p2i a ≤ p2i b := by
 unfold p2i
 have h1 : 2 ^ a.toNat ≤ 2 ^ b.toNat := Nat.pow_le_pow_right yz xq
 have h2 : ((2 ^ a.toNat : Nat) : Int) ≤ ((2 ^ b.toNat : Nat) : Int) := Int.ofNat_le.2 h1
 simpa using h2
theorem p2i_24 {n : Int} (h : n ≤ 24) : p2i n ≤ 16777216 := zwe (b := 24) h
end Nt
section
variable {P : Program} {w0 : Base} {u0 u w : World} {S : St} {ops : Array Oper} {o : Oper} {p : List Tmp} {seq : Bool} {rest : List (Oper × List Tmp)} {K : St → World → Prop}
theorem run_shl {T : TypeId} {k yk : IntKind} {n s : Int} {x y : Operand} (h0 : 0 ≤ s) (h1 : s ≤ k.bits) : (do eqGuard .shl T x y (.int k n) (.int yk s); binOp .shl T (.int k n) (.int yk s) : Sem Value).run P w = .ok (.int k (k.wrap (n * 2 ^ s.toNat))) w := by
 simp [eqGuard, binOp, shift_shl k yk n s h0 h1, go_sem]
theorem sy_shl (d : Tmp) {T T2 : TypeId} {x y : Operand} {k yk : IntKind} {n s : Int} (v : Int) (h0 : 0 ≤ s) (h1 : s ≤ k.bits) (hv : k.wrap (n * 2 ^ s.toNat) = v) (kk : sym P ops w0 u0 seq rest (S.set d (.v (.int k v))) u K) (hw : Wants ops o S := by exact zwg xj) (hd : o.dst = some d := by kernel_rfl) (hop : o.op = .binOp .shl T x y T2 := by rfl) (hf : freeB S d = true := by kernel_rfl)
  (hx : evO S x = some (.v (.int k n)) := by rfl) (hy : evO S y = some (.v (.int yk s)) := by rfl) : sym P ops w0 u0 seq ((o, p) :: rest) S u K := by
 subst hv
 refine .inl ⟨by rw [hop]; exact (by decide : (0 : Nat) ≠ 2), .set (.v (.int k (k.wrap (n * 2 ^ s.toNat)))), ⟨zxy hd hf, .inl ⟨(fun t ht => by cases ht), fun B a w u' hr he hdt => ⟨hw B a hr, ?_⟩⟩⟩, ?_⟩
 ·have e1 : (execOp a.eval o).run P w = (do pure (Next.value (← (do eqGuard .shl T x y (a.eval x) (a.eval y); binOp .shl T (a.eval x) (a.eval y)))) : Sem Next).run P w := by unfold execOp; rw [hop]
  rw [e1, ev_eval hr hx, ev_eval hr hy]
  exact run_val (run_shl h0 h1)
 show sym P ops w0 u0 seq rest (S.put o.dst (some _)) u K
 rw [hd]; exact kk
end
theorem shl_one {n : Int} (h0 : 0 ≤ n) (h1 : n ≤ 24) : IntKind.i64.wrap (1 * 2 ^ n.toNat) = Nt.p2i n := by
 have h2 := Nt.p2i_24 h1
 have h3 := Nt.zxp n
 rw [Int.one_mul]
 exact IntWalk.i64_in _ (by unfold Nt.p2i at *; omega)
theorem mod_pos9 (m : Int) (hm : 1 ≤ m) (n : Int) (h : decide (Int.tmod n m < 0) = false) : Int.tmod n m = n % m := by
 have h := of_decide_eq_false h
 rcases Int.lt_or_le n 0 with hn | hn
 ·have e := Int.tmod_add_mul_tdiv n m
  have h2 : -m < Int.tmod n m := Int.lt_tmod_of_pos n xq
  have h3 : Int.tmod n m ≤ 0 := by
   have h8 := Int.neg_tmod n m
   have h9 : Int.tmod (-n) m = (-n) % m := Int.tmod_eq_emod_of_nonneg xq
   have h10 := Int.emod_nonneg (-n) (show m ≠ 0 by omega)
   omega
  have h4 : Int.tmod n m = 0 := by omega
  rw [h4] at e ⊢
  have : m ∣ n := ⟨n.tdiv m, by omega⟩
  exact (Int.emod_eq_zero_of_dvd this).symm
 exact Int.tmod_eq_emod_of_nonneg hn
theorem mod_neg9 (m : Int) (hm : 1 ≤ m) (n : Int) (h : decide (Int.tmod n m < 0) = true) : Int.tmod n m + m = n % m := by
 have h := of_decide_eq_true h
 have e := Int.tmod_add_mul_tdiv n m
 have h2 : -m < Int.tmod n m := Int.lt_tmod_of_pos n xq
 have h5 : n = m * (n.tdiv m - 1) + (Int.tmod n m + m) := by rw [Int.mul_sub, Int.mul_one]; omega
 have := (Nt.ediv_uniq (z := n) (y := m) (q := n.tdiv m - 1) (r := Int.tmod n m + m) xq h5 xq xq).2
 exact this.symm
def MutL (k : Nat) (ty : TypeId) (lo : Nat) (u : World) (x : Sl) (cs : List Value) : Prop :=
 cs.length = x.n * k ∧ x.n ≤ x.c ∧ x.c ≤ maxLen ∧ (x = ⟨none, 0, 0⟩ ∨ ∃ b all, x.a = some ⟨b, 0, none⟩ ∧ u.heap[b]? = some (.cells (List.toArray all) ty (0, 0)) ∧ all.length = x.c * k ∧ all.take (x.n * k) = cs ∧ lo ≤ b)
def offB (x : Sl) (h : Nat) : Prop := ∀ a, x.a = some a → a.block ≠ h
structure ExtX (x : Sl) (u u' : World) : Prop where
 size : u.heap.size ≤ u'.heap.size
 vis : ∀ (k : Nat) (o : Obj), offB x k → u.heap[k]? = some o → o ≠ hidO → u'.heap[k]? = some o
structure ExtT (ty : TypeId) (u u' : World) : Prop where
 size : u.heap.size ≤ u'.heap.size
 vis : ∀ (k : Nat) (cs : Array Value) (t : TypeId), t ≠ ty → u.heap[k]? = some (.cells cs t (0, 0)) → u'.heap[k]? = some (.cells cs t (0, 0))
def sl0 : Sl := ⟨none, 0, 0⟩
structure TL where
 f : Int
 c : Int
def TL.cs (t : TL) : List Value := [.int .i64 t.f, .int .i64 t.c]
@[reducible] def TL.v (t : TL) : Value := .agg #[.int .i64 t.f, .int .i64 t.c]
def tl0 : TL := ⟨0, 0⟩
def tcs (L : List TL) : List Value := L.flatMap TL.cs
def ics (l : List Int) : List Value := l.map (Value.int .i64)
section
variable {k lo lo' h b n c i : Nat} {ty t2 : TypeId} {u u' u'' v : World} {x y : Sl} {cs cs' : List Value}
theorem cells_not_hid {cs : Array Value} {t : TypeId} : Obj.cells cs t (0, 0) ≠ hidO := by unfold hidO; intro e; cases e
theorem MutL.ext (m : MutL k ty lo u x cs) (e : Ext u u') : MutL k ty lo u' x cs :=
 ⟨m.1, m.2.1, m.2.2.1, m.2.2.2.imp id fun ⟨b, all, h1, h2, h3⟩ => ⟨b, all, h1, e.cells h2, h3⟩⟩
theorem MutL.extT (m : MutL k ty lo u x cs) (e : ExtT t2 u u') (ht : ty ≠ t2) : MutL k ty lo u' x cs :=
 ⟨m.1, m.2.1, m.2.2.1, m.2.2.2.imp id fun ⟨b, all, h1, h2, h3⟩ => ⟨b, all, h1, e.vis _ _ _ ht h2, h3⟩⟩
theorem MutL.extX (m : MutL k ty lo u y cs) (e : ExtX x u u') (ho : ∀ a, y.a = some a → offB x a.block) : MutL k ty lo u' y cs :=
 ⟨m.1, m.2.1, m.2.2.1, m.2.2.2.imp id fun ⟨b, all, h1, h2, h3⟩ => ⟨b, all, h1, e.vis _ _ (ho _ h1) h2 cells_not_hid, h3⟩⟩
theorem MutL.low (m : MutL k ty lo u x cs) (hl : lo' ≤ lo) : MutL k ty lo' u x cs :=
 ⟨m.1, m.2.1, m.2.2.1, m.2.2.2.imp id fun ⟨b, all, h1, h2, h3, h4, h5⟩ => ⟨b, all, h1, h2, h3, h4, Nat.le_trans hl h5⟩⟩
theorem MutL.nil (k : Nat) (ty : TypeId) (lo : Nat) (u : World) : MutL k ty lo u ⟨none, 0, 0⟩ [] := ⟨by simp, Nat.le_refl _, Nat.zero_le _, .inl rfl⟩
theorem ExtX.t {cs : List Value} (e : ExtX x u u') (m : MutL k ty lo u x cs) : ExtT ty u u' := ⟨e.size, fun q cs' t ht hq => by
 refine e.vis q _ (fun a ha hc => ?_) hq cells_not_hid
 rcases m.2.2.2 with h1 | ⟨b, all, h1, h2, _⟩
 ·rw [h1] at ha; cases ha
 rw [h1] at ha; injection ha with ha; subst ha
 rw [show b = q from hc, hq] at h2; injection h2 with h2; injection h2 with _ h2 _; exact ht h2⟩
theorem ExtX.root {cs : List Value} {u0 : World} (e : ExtX x u u') (m : MutL k ty u0.heap.size u x cs) (r : Ext u0 u) : Ext u0 u' := ⟨Nat.le_trans r.size e.size, fun q o hq hh => by
 refine e.vis q o (fun a ha hc => ?_) (r.vis q o hq hh) hh
 rcases m.2.2.2 with h1 | ⟨b, all, h1, _, _, _, h5⟩
 ·rw [h1] at ha; cases ha
 rw [h1] at ha; injection ha with ha; subst ha
 have := zxa hq
 have hc : b = q := hc
 omega⟩
theorem Ext.toX (e : Ext u u') (x : Sl) : ExtX x u u' := ⟨e.size, fun q o _ h1 h2 => e.vis q o h1 h2⟩
theorem ExtB.toX (e : ExtB b u u') (hx : x.a = some ⟨b, 0, none⟩) : ExtX x u u' := ⟨e.size, fun q o ho h1 h2 => e.vis q o (fun hc => ho _ hx hc.symm) h1 h2⟩
theorem MutL.lt {a : Addr} (m : MutL k ty lo u x cs) (ha : x.a = some a) : a.block < u.heap.size := by
 rcases m.2.2.2 with h1 | ⟨b, all, h1, h2, _⟩
 ·rw [h1] at ha; cases ha
 rw [h1] at ha; injection ha with ha; subst ha; exact zxa h2
theorem MutL.off (m : MutL k ty lo u x cs) (hh : u.heap.size ≤ h) : offB x h := fun a ha hc => by have := m.lt ha; omega
theorem MutL.cell {j : Nat} (m : MutL k ty lo u x cs) (hj : j < cs.length) : ∃ b, x.a = some ⟨b, 0, none⟩ ∧ u.cell? ⟨b, 0 + j, none⟩ = cs[j]? := by
 obtain ⟨h1, h2, h3, h4⟩ := m
 rcases h4 with h4 | ⟨b, all, g1, g2, g3, g4, g5⟩
 ·subst h4
  simp at h1; subst h1; simp at hj
 refine ⟨b, g1, ?_⟩
 rw [Nat.zero_add, cells_at g2, ← g4, List.getElem?_take_of_lt xq]; simp
theorem tcs_len (L : List TL) : (tcs L).length = L.length * 2 := by
 induction L with
 | nil => rfl
 | cons p L ih => show (p.cs ++ tcs L).length = _; rw [List.length_append, ih, List.length_cons]; simp [TL.cs]; omega
theorem tcs_app (L M : List TL) : tcs (L ++ M) = tcs L ++ tcs M := by simp [tcs]
theorem tcs_at {L : List TL} (h : i < L.length) : ∀ j, j < 2 → (tcs L)[i * 2 + j]? = (L.getD i tl0).cs[j]? := by
 induction L generalizing i with
 | nil => simp at h
 | cons p L ih =>
  intro j hj
  show (p.cs ++ tcs L)[i * 2 + j]? = _
  cases i with
  | zero =>
   rw [Nat.zero_mul, Nat.zero_add, List.getElem?_append_left (by simp [TL.cs]; omega)]; rfl
  | succ i =>
   rw [show (i + 1) * 2 + j = p.cs.length + (i * 2 + j) by simp [TL.cs]; omega, List.getElem?_append_right xq, Nat.add_sub_cancel_left]
   exact ih (by simpa using h) j hj
theorem tl_one (t : TL) : ∀ v ∈ t.cs, v.oneCell' = true := by
 intro v hv
 simp [TL.cs] at hv
 rcases hv with rfl | rfl <;> rfl
theorem zwj (l : List Int) : (ics l).length = l.length := by unfold ics; simp
theorem ics_at {l : List Int} (h : i < l.length) : (ics l)[i]? = some (.int .i64 (l.getD i 0)) := by
 unfold ics
 rw [List.getElem?_map, List.getD_eq_getElem?_getD, List.getElem?_eq_getElem h]; rfl
theorem ics_set (l : List Int) (i : Nat) (z : Int) : (ics l).set i (.int .i64 z) = ics (l.set i z) := by unfold ics; rw [List.map_set]
theorem made_ints (n : Nat) : (madeCells #[Value.int .i64 0] (n * 1)).toList = ics (List.replicate n 0) := by
 unfold madeCells ics
 rw [List.map_replicate]
 refine List.eq_replicate_iff.2 ⟨by simp, fun b hb => ?_⟩
 simp at hb
 obtain ⟨x, _, rfl⟩ := hb
 rw [Nat.mod_one]; rfl
theorem MutL.lit {cs : List Value} (hu : u.heap[b]? = some (.cells cs.toArray ty (0, 0))) (hl : cs.length = n * k) (hn : n ≤ maxLen) (hb : lo ≤ b) : MutL k ty lo u ⟨some ⟨b, 0, none⟩, n, n⟩ cs :=
 ⟨hl, Nat.le_refl _, hn, .inr ⟨b, cs, rfl, hu, hl, by rw [List.take_of_length_le (by show _ ≤ n * k; omega)], hb⟩⟩
theorem sl_one (x : Sl) : ∀ v ∈ [x.v], v.oneCell' = true := fun v hv => by
 simp at hv; subst hv; rfl
theorem part_ints {L : List Int} (hi : i < L.length) {off : Nat} (ho : off = i * 1) : PartIs (ics L) off false 1 (.v (.int .i64 (L.getD i 0))) := by
 subst ho
 exact ⟨_, by rw [Nat.mul_one]; exact ics_at hi, rfl⟩
theorem setL_ints {L : List Int} {z : Int} (hi : i < L.length) {off : Nat} (ho : off = i * 1) : setL (ics L) off (Value.int .i64 z).cells.toList = ics (L.set i z) := by
 subst ho
 rw [Nat.mul_one]
 have := setL_cons (cs := ics L) (off := i) (v := .int .i64 z) (vs := []) (by rw [zwj]; exact hi)
 rw [setL_nil] at this
 rw [← ics_set]; exact this.symm
end
def NodesB (lo h : Nat) (u : World) (x : Sl) (N : List (List TL)) : Prop :=
 ∃ Ls : List Sl, MutL 1 150 lo u x (Ls.map Sl.v) ∧ Ls.length = N.length ∧ ∀ i, i < N.length → MutL 2 147 lo u (Ls.getD i sl0) (tcs (N.getD i [])) ∧ offB (Ls.getD i sl0) h
section
variable {k lo lo' h h' b n c i : Nat} {ty t2 : TypeId} {u u' u'' v : World} {x y z : Sl} {cs cs' : List Value} {N : List (List TL)} {ts : List TL}
theorem NodesB.nil (lo h : Nat) (u : World) : NodesB lo h u ⟨none, 0, 0⟩ [] := ⟨[], .nil _ _ _ _, rfl, fun i hi => by simp at hi⟩
theorem NodesB.len (m : NodesB lo h u x N) : x.n = N.length := by
 obtain ⟨Ls, h1, h2, _⟩ := m
 have := h1.1
 rw [List.length_map, Nat.mul_one] at this
 omega
theorem NodesB.ext (m : NodesB lo h u x N) (e : Ext u u') : NodesB lo h u' x N := by
 obtain ⟨Ls, h1, h2, h3⟩ := m
 exact ⟨Ls, h1.ext e, h2, fun i hi => ⟨(h3 i hi).1.ext e, (h3 i hi).2⟩⟩
theorem NodesB.low (m : NodesB lo h u x N) (hl : lo' ≤ lo) : NodesB lo' h u x N := by
 obtain ⟨Ls, h1, h2, h3⟩ := m
 exact ⟨Ls, h1.low hl, h2, fun i hi => ⟨(h3 i hi).1.low hl, (h3 i hi).2⟩⟩
theorem NodesB.extT (m : NodesB lo h u x N) (e : ExtT t2 u u') (h1 : 150 ≠ t2) (h2 : 147 ≠ t2) : NodesB lo h u' x N := by
 obtain ⟨Ls, g1, g2, g3⟩ := m
 exact ⟨Ls, g1.extT e h1, g2, fun i hi => ⟨(g3 i hi).1.extT e h2, (g3 i hi).2⟩⟩
theorem NodesB.excl (m : NodesB lo h u x N) (hh : u.heap.size ≤ h') : NodesB lo h' u x N := by
 obtain ⟨Ls, g1, g2, g3⟩ := m
 exact ⟨Ls, g1, g2, fun i hi => ⟨(g3 i hi).1, (g3 i hi).1.off hh⟩⟩
theorem NodesB.excl2 (m : NodesB lo h u x N) (e : Ext u u') (hh : u.heap.size ≤ h') : NodesB lo h' u' x N := (m.excl hh).ext e
theorem getD_snoc {α : Type} (L : List α) (a z : α) (i : Nat) : (L ++ [a]).getD i z = if i < L.length then L.getD i z else if i = L.length then a else z := by
 rw [List.getD_eq_getElem?_getD]
 split
 ·rename_i h; rw [List.getElem?_append_left h, List.getD_eq_getElem?_getD]
 rename_i h
 rw [List.getElem?_append_right xq]
 split
 ·rename_i h2; rw [h2, Nat.sub_self]; rfl
 rename_i h2; rw [List.getElem?_eq_none zx]; rfl
theorem NodesB.snoc {Ls : List Sl} (h1 : MutL 1 150 lo u x (Ls.map Sl.v)) (h2 : Ls.length = N.length) (h3 : ∀ i, i < N.length → MutL 2 147 lo u (Ls.getD i sl0) (tcs (N.getD i [])) ∧ offB (Ls.getD i sl0) h)
  (my : MutL 2 147 lo u y (tcs ts)) (hy : offB y h) (e : ExtX x u u') (hm : MutL 1 150 lo u' z (Ls.map Sl.v ++ [y.v])) : NodesB lo h u' z (N ++ [ts]) := by
 have et := e.t h1
 refine ⟨Ls ++ [y], by rw [List.map_append]; exact hm, by simp [h2], fun i hi => ?_⟩
 rw [getD_snoc, getD_snoc, h2]
 by_cases hl : i < N.length
 ·rw [if_pos hl, if_pos hl]
  exact ⟨(h3 i hl).1.extT et yz, (h3 i hl).2⟩
 simp at hi
 rw [if_neg hl, if_neg hl, if_pos xq, if_pos xq]
 exact ⟨my.extT et yz, hy⟩
end
section
variable {P : Program} {ops : Array Oper} {w0 : Base} {u0 : World} {S T : St} {B : Tmp → Nat} {a : Act} {w w' u u' u'' v : World} {o : Oper} {p : List Tmp} {rest : List (Oper × List Tmp)} {K : St → World → Prop}
theorem sy_appM (d : Tmp) {T E : TypeId} {s src : Operand} {z : Value} {size bytes : Nat} {b2 off m c : Nat} (x : Sl) (cs news : List Value) (hm0 : MutL size E u0.heap.size u x cs) (hT : P.underlying T = some (.slice E)) (hi : (P.info? E).map (fun i => (i.zero, i.size, i.bytes)) = some (some z, size, bytes)) (hzs : z.cells.size = size) (hsz : 0 < size)
  (hl : news.length = m * size) (hnews : ∀ j v, news[j]? = some v → u.cell? ⟨b2, off + j, none⟩ = some v) (h1 : ∀ v ∈ news, v.oneCell' = true) (hm : 0 < m) (h63 : x.n + m ≤ maxLen) (hbytes : (x.n + m) * bytes ≤ 140737488355328)
  (k : ∀ (y : Sl) (u1 : World), MutL size E u0.heap.size u1 y (cs ++ news) → y.n = x.n + m → ExtX x u u1 → (∀ a, y.a = some a → (x.a = some a ∨ u.heap.size ≤ a.block)) → sym P ops w0 u0 true rest (S.set d (.v y.v)) u1 K)
  (hw : Wants ops o S := by exact zwg xj) (hd : o.dst = some d := by kernel_rfl) (hop : o.op = .call { callee := .builtin .append, args := #[s, src], argTypes := #[T, T] } := by rfl) (hf : freeB S d = true := by kernel_rfl)
  (hs : evO S s = some (.v x.v) := by rfl) (hx : evO S src = some (.v (.slice (some ⟨b2, off, none⟩) m c)) := by rfl) : sym P ops w0 u0 true ((o, p) :: rest) S u K := by
 obtain ⟨q1, q2, q3, q4⟩ := id hm0
 rcases q4 with q4 | ⟨b, all, g1, g2, g3, g4, g5⟩
 ·subst q4
  have hcs : cs = [] := List.eq_nil_of_length_eq_zero (by rw [q1]; simp)
  subst hcs
  have h63' : m ≤ maxLen := by have h9 : 0 + m ≤ maxLen := h63; omega
  have hby' : m * bytes ≤ 140737488355328 := by have h9 : (0 + m) * bytes ≤ _ := hbytes; rwa [Nat.zero_add] at h9
  refine sy_appD0 d (E := E) (z := z) news hT hi hzs hsz hl hnews h1 hm h63' hby' (fun g c1 cs1 u1 k1 k2 k3 k4 k5 k6 k7 k8 => ?_) hw hd hop hf hs hx
  refine k ⟨some ⟨g, 0, none⟩, m, c1⟩ u1 ⟨by simpa using hl, k1, k2, .inr ⟨g, cs1, rfl, k5, k3, by simpa using k4, k7⟩⟩ (by show m = 0 + m; omega) (k8.toX _) (fun a ha => .inr ?_)
  injection ha with ha; subst ha; exact k6
 have hs' : evO S s = some (.v (.slice (some ⟨b, 0, none⟩) x.n x.c)) := by rw [hs, ← g1]
 refine sy_appD d (E := E) (z := z) (n := x.n) (cap := x.c) (cs0 := all) (b := b) news hT hi hzs hsz hl hnews h1 hm h63 hbytes q2 q3 g3 g2 (.inl g5) (fun g c1 cs1 u1 k1 k2 k3 k4 k5 k6 k7 => ?_) hw hd hop hf hs' hx
 refine k ⟨some ⟨g, 0, none⟩, x.n + m, c1⟩ u1 ⟨by rw [List.length_append, q1, hl, Nat.add_mul], k1, k2, .inr ⟨g, cs1, rfl, k5, k3, by rw [k4, g4], ?_⟩⟩ rfl (k7.toX g1) (fun a ha => ?_)
 ·rcases k6 with k6 | k6
  ·rw [k6]; exact g5
  have h8 := zxa g2
  omega
 injection ha with ha; subst ha
 rcases k6 with k6 | k6
 ·subst k6; exact .inl g1
 exact .inr k6
theorem sy_storeM {T ty : TypeId} {r : Tmp} {zo : Operand} {z : Int} {i b : Nat} {l : List Int} (x : Sl) (hm0 : MutL 1 ty u0.heap.size u x (ics l)) (hb : x.a = some ⟨b, 0, none⟩) (hT : TyIs P T false 1) (hi : i < l.length)
  (k : ∀ (u1 : World), MutL 1 ty u0.heap.size u1 x (ics (l.set i z)) → ExtX x u u1 → sym P ops w0 u0 true rest S u1 K)
  (hw : Wants ops o S := by exact zwg xj) (hd : o.dst = none := by kernel_rfl) (hop : o.op = .store T (.tmp r) zo := by rfl) (hr : S.reg r = some (.v (.pointer (some ⟨b, 0 + i * 1, none⟩))) := by rfl) (hz : evO S zo = some (.v (.int .i64 z)) := by rfl) : sym P ops w0 u0 true ((o, p) :: rest) S u K := by
 obtain ⟨q1, q2, q3, q4⟩ := id hm0
 rcases q4 with q4 | ⟨b', all, g1, g2, g3, g4, g5⟩
 ·subst q4; cases hb
 rw [hb] at g1; injection g1 with g1; injection g1 with g1 _ _; subst g1
 rw [Nat.zero_add, Nat.mul_one] at hr
 rw [zwj] at q1
 refine sy_storeD (b := b) (off := i) (cs := all) (n := 1) g2 (.inl g5) hT xq (fun u1 k1 k2 => ?_) hw hd hop hr hz
 refine k u1 ⟨by rw [zwj, List.length_set]; exact q1, q2, q3, .inr ⟨b, _, hb, k1, ?_, ?_, g5⟩⟩ (k2.toX hb)
 ·rw [setL_length (by show i + 1 ≤ _; omega)]; exact g3
 have e : setL all i (Value.int .i64 z).cells.toList = all.set i (.int .i64 z) := by
  have := setL_cons (cs := all) (off := i) (v := .int .i64 z) (vs := []) xq
  rw [setL_nil] at this
  exact this.symm
 rw [e, ← ics_set, ← g4, List.take_set]
end
namespace Nt
def fwdN (m i : Nat) : Int := if i = m then 0 else ((2 * m - i : Nat) : Int)
def bakN (m i : Nat) : Int := if i = 0 then fwdN m 0 else ((2 * m + i : Nat) : Int)
def nd1 (U : Int) (k : List Int) (m t : Nat) : List TL := [⟨fwdN m (m - t), U⟩, ⟨((m - t : Nat) : Int), -k.getD (m - t - 1) 0⟩]
def nd2 (U : Int) (k : List Int) (m i : Nat) : List TL := [⟨fwdN m i, k.getD i 0⟩, ⟨((i + 1 : Nat) : Int), U⟩]
def lasN (v : List Int) (m n : Nat) : List TL := (List.range n).map fun i => ⟨bakN m i, v.getD i 0⟩
def ndA (U : Int) (k : List Int) (m t : Nat) : List (List TL) := (List.range t).map (nd1 U k m)
def ndB (U : Int) (k : List Int) (m n : Nat) : List (List TL) := ndA U k m m ++ (List.range n).map (nd2 U k m)
def latNd (U : Int) (k v : List Int) (m : Nat) : List (List TL) := ndB U k m m ++ [lasN v m (m + 1)]
def nexN (m n : Nat) : List Int := (List.range m).map fun j => if j < n then bakN m j else 0
theorem ndA_succ (U : Int) (k : List Int) (m t : Nat) : ndA U k m (t + 1) = ndA U k m t ++ [nd1 U k m t] := by unfold ndA; rw [List.range_succ, List.map_append]; rfl
theorem ndB_succ (U : Int) (k : List Int) (m t : Nat) : ndB U k m (t + 1) = ndB U k m t ++ [nd2 U k m t] := by unfold ndB; rw [List.range_succ, List.map_append, ← List.append_assoc]; rfl
theorem lasN_succ (v : List Int) (m n : Nat) : lasN v m (n + 1) = lasN v m n ++ [⟨bakN m n, v.getD n 0⟩] := by unfold lasN; rw [List.range_succ, List.map_append]; rfl
theorem ndA_len (U : Int) (k : List Int) (m t : Nat) : (ndA U k m t).length = t := by unfold ndA; simp
theorem ndB_len (U : Int) (k : List Int) (m t : Nat) : (ndB U k m t).length = m + t := by unfold ndB; simp [ndA_len]
theorem nexN_len (m n : Nat) : (nexN m n).length = m := by unfold nexN; simp
theorem nexN_zero (m : Nat) : nexN m 0 = List.replicate m 0 := by
 unfold nexN
 refine List.eq_replicate_iff.2 ⟨by simp, fun b hb => ?_⟩
 simp at hb
 exact hb.2.symm ▸ rfl
theorem getD_setI (L : List Int) (i j : Nat) (z : Int) (h : i < L.length) : (L.set i z).getD j 0 = if i = j then z else L.getD j 0 := by
 rw [List.getD_eq_getElem?_getD, List.getD_eq_getElem?_getD]
 split
 ·rename_i e; subst e; rw [List.getElem?_set_self h]; rfl
 rename_i e; rw [List.getElem?_set_ne e]
theorem list_eqI {l m : List Int} (h : l.length = m.length) (k : ∀ i, i < l.length → l.getD i 0 = m.getD i 0) : l = m := by
 refine List.ext_getElem h fun i h1 h2 => ?_
 have := k i h1
 rw [List.getD_eq_getElem?_getD, List.getD_eq_getElem?_getD, List.getElem?_eq_getElem h1, List.getElem?_eq_getElem h2] at this
 exact this
theorem nexN_at (m n : Nat) {j : Nat} (h : j < m) : (nexN m n).getD j 0 = if j < n then bakN m j else 0 := by
 unfold nexN
 rw [List.getD_eq_getElem?_getD, List.getElem?_map, List.getElem?_range h]; rfl
theorem nexN_set {m n : Nat} {z : Int} (h : n < m) (hz : z = bakN m n) : (nexN m n).set n z = nexN m (n + 1) := by
 refine list_eqI (by rw [List.length_set, nexN_len, nexN_len]) fun i hi => ?_
 rw [List.length_set, nexN_len] at hi
 rw [getD_setI _ _ _ _ (by rw [nexN_len]; exact h), nexN_at _ _ hi, nexN_at _ _ hi]
 split
 ·rename_i e; subst e; rw [hz, if_pos xq]
 rename_i e
 by_cases h2 : i < n
 ·rw [if_pos h2, if_pos xq]
 rw [if_neg h2, if_neg xq]
theorem fwd_zero (m : Nat) : ∀ j, m ≤ j → j ≤ m → (List.replicate (m + 1) (0 : Int)).getD j 0 = fwdN m j := fun j h1 h2 => by
 have e : j = m := by omega
 subst e
 unfold fwdN
 rw [if_pos rfl, List.getD_eq_getElem?_getD, List.getElem?_replicate]
 split <;> rfl
theorem fwd_set {L : List Int} {m i : Nat} {z : Int} (hL : L.length = m + 1) (h : ∀ j, i ≤ j → j ≤ m → L.getD j 0 = fwdN m j) (h1 : 1 ≤ i) (h2 : i ≤ m) (hz : z = ((2 * m - (i - 1) : Nat) : Int)) : ∀ j, i - 1 ≤ j → j ≤ m → (L.set (i - 1) z).getD j 0 = fwdN m j := fun j h3 h4 => by
 rw [getD_setI _ _ _ _ xq]
 split
 ·rename_i e; subst e
  unfold fwdN
  rw [if_neg xq, hz]
 exact h j xq h4
theorem bak_set {L : List Int} {m i : Nat} {z : Int} (hL : L.length = m + 1) (h : ∀ j, j < i → L.getD j 0 = bakN m j) (h1 : 1 ≤ i) (h2 : i ≤ m) (hz : z = ((2 * m + i : Nat) : Int)) : ∀ j, j < i + 1 → (L.set i z).getD j 0 = bakN m j := fun j h3 => by
 rw [getD_setI _ _ _ _ xq]
 split
 ·rename_i e; subst e
  unfold bakN
  rw [if_neg xq, hz]
 exact h j xq
theorem bak_one {L M : List Int} {m : Nat} (hL : L.length = m + 1) (h : M.getD 0 0 = fwdN m 0) : ∀ j, j < 1 → (L.set 0 (M.getD 0 0)).getD j 0 = bakN m j := fun j hj => by
 have e : j = 0 := by omega
 subst e
 rw [getD_setI _ _ _ _ xq, if_pos rfl]
 unfold bakN
 rw [if_pos rfl]; exact h
end Nt
section
variable {lo h g : Nat} {u u' : World} {x y z : Sl} {N : List (List TL)} {cs : List Value}
theorem Nt.ndA_step {U v w : Int} {l : List Int} {n i : Nat} (m : NodesB lo h u x (Nt.ndA U l n (n - i) ++ [[⟨v, U⟩, ⟨(i : Int), w⟩]])) (h1 : 1 ≤ i) (h2 : i ≤ n) (hv : v = Nt.fwdN n i) (hw : w = -l.getD (i - 1) 0) : NodesB lo h u x (Nt.ndA U l n (n - (i - 1))) := by
 rw [show n - (i - 1) = (n - i) + 1 by omega, Nt.ndA_succ]
 have e : Nt.nd1 U l n (n - i) = [⟨v, U⟩, ⟨(i : Int), w⟩] := by
  unfold Nt.nd1
  rw [show n - (n - i) = i by omega, hv, hw]
 rw [e]; exact m
theorem Nt.ndB_step {U v w : Int} {l : List Int} {n i : Nat} (m : NodesB lo h u x (Nt.ndB U l n (i - 1) ++ [[⟨v, w⟩, ⟨(i : Int), U⟩]])) (h1 : 1 ≤ i) (hv : v = Nt.fwdN n (i - 1)) (hw : w = l.getD (i - 1) 0) : NodesB lo h u x (Nt.ndB U l n i) := by
 obtain ⟨j, rfl⟩ : ∃ j, i = j + 1 := ⟨i - 1, by omega⟩
 rw [Nt.ndB_succ]
 have e : Nt.nd2 U l n j = [⟨v, w⟩, ⟨((j + 1 : Nat) : Int), U⟩] := by
  unfold Nt.nd2
  rw [hv, hw, Nat.add_sub_cancel]
 rw [e]; exact m
theorem Nt.las_step {v : List Int} {a b : Int} {n i : Nat} {k : Nat} {ty : TypeId} (m : MutL k ty lo u x (tcs (Nt.lasN v n i ++ [⟨a, b⟩]))) (ha : a = Nt.bakN n i) (hb : b = v.getD i 0) : MutL k ty lo u x (tcs (Nt.lasN v n (i + 1))) := by
 rw [Nt.lasN_succ, ← ha, ← hb]; exact m
theorem MutL.addr {k : Nat} {ty : TypeId} (m : MutL k ty lo u x cs) (hn : 0 < x.n) : ∃ b, x.a = some ⟨b, 0, none⟩ := by
 rcases m.2.2.2 with h1 | ⟨b, all, h1, _⟩
 ·subst h1; exact absurd hn (Nat.lt_irrefl 0)
 exact ⟨b, h1⟩
theorem blk_of {x : Sl} {h : Nat} (hx : x.a = some ⟨h, 0, none⟩) : ∀ a, x.a = some a → a.block = h := fun a ha => by
 rw [hx] at ha; injection ha with ha; subst ha; rfl
def Sep (x y : Sl) : Prop := ∀ a b, x.a = some a → y.a = some b → a.block ≠ b.block
theorem Sep.symm (h : Sep x y) : Sep y x := fun a b ha hb e => h b a hb ha e.symm
theorem NodesB.termStep (m : NodesB lo h u x N) (mz : MutL 2 147 lo u z cs) (hz : ∀ a, z.a = some a → a.block = h) (e : ExtX z u u') (hy : y.a = some ⟨g, 0, none⟩) (ho : ∀ a, y.a = some a → (z.a = some a ∨ u.heap.size ≤ a.block)) : NodesB lo g u' x N := by
 obtain ⟨Ls, g1, g2, g3⟩ := id m
 refine ⟨Ls, g1.extT (e.t mz) yz, g2, fun i hi => ⟨(g3 i hi).1.extX e fun a ha a' ha' hc => ?_, fun a ha hc => ?_⟩⟩
 ·exact (g3 i hi).2 a ha (hc.symm.trans (hz _ ha'))
 rcases ho _ hy with h1 | h1
 ·have h2 : g = h := hz _ h1
  exact (g3 i hi).2 a ha (hc.trans h2)
 have h2 := (g3 i hi).1.lt ha
 have h3 : u.heap.size ≤ g := h1
 omega
end
def NU (v : Value) : Prop := ∀ y, v ≠ .int .u32 y
def MutQ (k : Nat) (ty : TypeId) (lo : Nat) (u : World) (x : Sl) (cs : List Value) : Prop :=
 cs.length = x.n * k ∧ x.n ≤ x.c ∧ x.c ≤ maxLen ∧ (x = ⟨none, 0, 0⟩ ∨ ∃ b all, x.a = some ⟨b, 0, none⟩ ∧ u.heap[b]? = some (.cells (List.toArray all) ty (0, 0)) ∧ all.length = x.c * k ∧ all.take (x.n * k) = cs ∧ lo ≤ b ∧ ∀ v ∈ all, NU v)
section
variable {k lo lo' h b n c i j off : Nat} {ty t2 : TypeId} {u u' u'' v : World} {x y z : Sl} {cs cs' vs : List Value} {L : List RL} {r : RL} {q : Rat} {K : Nat}
theorem MutQ.mutL (m : MutQ k ty lo u x cs) : MutL k ty lo u x cs := ⟨m.1, m.2.1, m.2.2.1, m.2.2.2.imp id fun ⟨b, all, h1, h2, h3, h4, h5, _⟩ => ⟨b, all, h1, h2, h3, h4, h5⟩⟩
theorem MutQ.ext (m : MutQ k ty lo u x cs) (e : Ext u u') : MutQ k ty lo u' x cs :=
 ⟨m.1, m.2.1, m.2.2.1, m.2.2.2.imp id fun ⟨b, all, h1, h2, h3⟩ => ⟨b, all, h1, e.cells h2, h3⟩⟩
theorem MutQ.extT (m : MutQ k ty lo u x cs) (e : ExtT t2 u u') (ht : ty ≠ t2) : MutQ k ty lo u' x cs :=
 ⟨m.1, m.2.1, m.2.2.1, m.2.2.2.imp id fun ⟨b, all, h1, h2, h3⟩ => ⟨b, all, h1, e.vis _ _ _ ht h2, h3⟩⟩
theorem MutQ.extS (m : MutQ k ty lo u y cs) (e : ExtX x u u') (hs : Sep x y) : MutQ k ty lo u' y cs :=
 ⟨m.1, m.2.1, m.2.2.1, m.2.2.2.imp id fun ⟨b, all, h1, h2, h3⟩ => ⟨b, all, h1, e.vis _ _ (fun a ha hc => hs a _ ha h1 hc) h2 cells_not_hid, h3⟩⟩
theorem MutQ.low (m : MutQ k ty lo u x cs) (hl : lo' ≤ lo) : MutQ k ty lo' u x cs :=
 ⟨m.1, m.2.1, m.2.2.1, m.2.2.2.imp id fun ⟨b, all, h1, h2, h3, h4, h5, h6⟩ => ⟨b, all, h1, h2, h3, h4, Nat.le_trans hl h5, h6⟩⟩
theorem MutQ.nil (k : Nat) (ty : TypeId) (lo : Nat) (u : World) : MutQ k ty lo u sl0 [] := ⟨by simp [sl0], Nat.le_refl _, Nat.zero_le _, .inl rfl⟩
theorem MutQ.lit {cs : List Value} (hu : u.heap[b]? = some (.cells cs.toArray ty (0, 0))) (hl : cs.length = n * k) (hn : n ≤ maxLen) (hb : lo ≤ b) (hnu : ∀ v ∈ cs, NU v) : MutQ k ty lo u ⟨some ⟨b, 0, none⟩, n, n⟩ cs :=
 ⟨hl, Nat.le_refl _, hn, .inr ⟨b, cs, rfl, hu, hl, by rw [List.take_of_length_le (by show _ ≤ n * k; omega)], hb, hnu⟩⟩
theorem nu_bool (s : Bool) : NU (.bool s) := fun y e => by cases e
theorem nu_sl (a : Option Addr) (n c : Nat) : NU (.slice a n c) := fun y e => by cases e
theorem nu_rl (r : RL) : ∀ v ∈ r.cs, NU v := fun v hv => by
 simp [RL.cs] at hv
 rcases hv with rfl | rfl | rfl
 ·exact nu_bool _
 ·exact nu_sl _ _ _
 exact nu_sl _ _ _
theorem nu_rcs (L : List RL) : ∀ v ∈ rcs L, NU v := fun v hv => by
 obtain ⟨r, _, h⟩ := List.mem_flatMap.1 hv
 exact nu_rl r v h
theorem nu_sls (Rs : List Sl) : ∀ v ∈ Rs.map Sl.v, NU v := fun v hv => by
 obtain ⟨x, _, rfl⟩ := List.mem_map.1 hv
 exact nu_sl _ _ _
theorem MutQ.keep (m : MutQ k ty lo u x cs) (e : ExtX x u u') (h : RatN u r q K) : RatN u' r q K := by
 rcases m.2.2.2 with h1 | ⟨b, all, h1, h2, _, _, _, h6⟩
 ·refine h.ext ⟨e.size, fun q o ho hh => e.vis q o (fun a ha => by rw [h1] at ha; cases ha) ho hh⟩
 exact h.extB0 h2 h6 ⟨e.size, fun q o hq ho hh => e.vis q o (fun a ha hc => by rw [h1] at ha; injection ha with ha; subst ha; exact hq hc.symm) ho hh⟩
theorem MutQ.keeps {l : List Rat} (m : MutQ k ty lo u x cs) (e : ExtX x u u') (h : RatsN u L l K) : RatsN u' L l K := ⟨h.1, fun i hi => m.keep e (h.2 i hi)⟩
theorem setL_take {cs : List Value} (h : off + vs.length ≤ n) (hn : n ≤ cs.length) : (setL cs off vs).take n = setL (cs.take n) off vs := by
 unfold setL
 rw [List.take_take, Nat.min_eq_left xq, List.take_append, List.take_of_length_le (l := cs.take off ++ vs) zx, List.drop_take]
 congr 2
 simp
 rw [Nat.min_eq_left xq]
theorem nu_setL (h1 : ∀ v ∈ cs, NU v) (h2 : ∀ v ∈ vs, NU v) : ∀ v ∈ setL cs off vs, NU v := fun v hv => by
 unfold setL at hv
 rcases List.mem_append.1 hv with hv | hv
 ·rcases List.mem_append.1 hv with hv | hv
  ·exact h1 v (List.mem_of_mem_take hv)
  exact h2 v hv
 exact h1 v (List.mem_of_mem_drop hv)
end
section
variable {P : Program} {ops : Array Oper} {w0 : Base} {u0 : World} {S T : St} {B : Tmp → Nat} {a : Act} {w w' u u' u'' v : World} {o : Oper} {p : List Tmp} {rest : List (Oper × List Tmp)} {K : St → World → Prop}
theorem sy_storeQ {T ty : TypeId} {r : Tmp} {z : Operand} {v : Value} {agg : Bool} {n k lo off b : Nat} {cs : List Value} (x : Sl) (hm : MutQ k ty lo u x cs) (hmay : ∀ a, x.a = some a → MayB w0 u0 a.block) (hb : x.a = some ⟨b, 0, none⟩) (hT : TyIs P T agg n) (hl : off + n ≤ cs.length) (hnu : ∀ y ∈ v.cells.toList, NU y)
  (kk : ∀ u1, MutQ k ty lo u1 x (setL cs off v.cells.toList) → ExtX x u u1 → sym P ops w0 u0 true rest S u1 K)
  (hw : Wants ops o S := by exact zwg xj) (hd : o.dst = none := by kernel_rfl) (hop : o.op = .store T (.tmp r) z := by rfl) (hr : S.reg r = some (.v (.pointer (some ⟨b, off, none⟩))) := by rfl) (hz : evO S z = some (.v v) := by rfl)
  (hn : v.cells.size = n := by kernel_rfl) (hone : v.cells.toList.all Value.oneCell' = true := by kernel_rfl) : sym P ops w0 u0 true ((o, p) :: rest) S u K := by
 obtain ⟨q1, q2, q3, q4⟩ := id hm
 rcases q4 with q4 | ⟨b', all, g1, g2, g3, g4, g5, g6⟩
 ·subst q4; cases hb
 have hmb := hmay _ g1
 rw [hb] at g1; injection g1 with g1; injection g1 with g1 _ _; subst g1
 have hlv : v.cells.toList.length = n := by simpa using hn
 have hnk : x.n * k ≤ all.length := by rw [g3]; exact Nat.mul_le_mul_right _ q2
 refine sy_storeD (b := b) (off := off) (cs := all) (n := n) g2 hmb hT xq (fun u1 k1 k2 => ?_) hw hd hop hr hz hn hone
 refine kk u1 ⟨?_, q2, q3, .inr ⟨b, _, hb, k1, ?_, ?_, g5, nu_setL g6 hnu⟩⟩ (k2.toX hb)
 ·rw [setL_length xq]; exact q1
 ·rw [setL_length xq]; exact g3
 rw [setL_take xq hnk, g4]
end
section
variable {w k lo lo' h b n c i j off : Nat} {tO tR : TypeId} {u u' u'' v : World} {x y z : Sl} {Rs : List Sl} {Ls : List (List RL)} {L : List RL} {M : List (List Rat)} {l : List Rat} {r : RL} {q : Rat} {K K' : Nat}
theorem rcs_part {L : List RL} (h : j + n ≤ L.length) : ((rcs L).drop (j * 3)).take (n * 3) = rcs ((L.drop j).take n) := by
 have hd : ∀ (L : List RL) (j : Nat), (rcs L).drop (j * 3) = rcs (L.drop j) := by
  intro L
  induction L with
  | nil => intro j; simp [rcs]
  | cons r L ih =>
   intro j
   cases j with
   | zero => simp
   | succ j =>
    show (r.cs ++ rcs L).drop ((j + 1) * 3) = _
    rw [List.drop_succ_cons, ← ih j, Nat.succ_mul, Nat.add_comm, ← List.drop_drop]
    congr 1
 have ht : ∀ (L : List RL) (n : Nat), n ≤ L.length → (rcs L).take (n * 3) = rcs (L.take n) := by
  intro L
  induction L with
  | nil => intro n h; simp [rcs]
  | cons r L ih =>
   intro n h
   cases n with
   | zero => simp [rcs]
   | succ n =>
    show (r.cs ++ rcs L).take ((n + 1) * 3) = r.cs ++ rcs (L.take n)
    rw [List.take_append, List.take_of_length_le (by simp [RL.cs]; omega), ← ih n (by simpa using h)]
    congr 2
    simp [RL.cs]; omega
 rw [hd, ht _ _ (by rw [List.length_drop]; omega)]
theorem MutQ.el {ty : TypeId} (hw : 0 < w) (m : MutQ (w * 3) ty lo u y (rcs L)) (hj : j * w + w ≤ L.length) : ∃ b, y.a = some ⟨b, 0, none⟩ ∧ ∀ q, q < (rcs ((L.drop (j * w)).take w)).length → u.cell? ⟨b, 0 + j * (w * 3) + q, none⟩ = (rcs ((L.drop (j * w)).take w))[q]? := by
 have hl : (rcs L).length = L.length * 3 := zyy
 obtain ⟨b, h1, _⟩ := m.mutL.cell (j := 0) (by rw [hl]; omega)
 refine ⟨b, h1, fun q hq => ?_⟩
 have hq' : q < w * 3 := by
  rw [zyy, List.length_take, List.length_drop, Nat.min_eq_left xq] at hq; exact hq
 have hlt : j * (w * 3) + q < (rcs L).length := by
  rw [hl]
  have : j * (w * 3) = (j * w) * 3 := by rw [Nat.mul_assoc]
  omega
 obtain ⟨b2, h2, h3⟩ := m.mutL.cell (j := j * (w * 3) + q) hlt
 rw [h1] at h2; injection h2 with h2; injection h2 with h2 _ _; subst h2
 rw [Nat.add_assoc, h3, ← rcs_part hj, List.getElem?_take_of_lt hq', List.getElem?_drop, Nat.mul_assoc]
theorem getD_set_same {α : Type} {l : List α} {a z : α} (h : i < l.length) : (l.set i a).getD i z = a := by simp [List.getD_eq_getElem?_getD, h]
theorem getD_set_other {α : Type} {l : List α} {a z : α} (h : i ≠ j) : (l.set i a).getD j z = l.getD j z := by simp [List.getD_eq_getElem?_getD, h]
theorem setL_map {Rs : List Sl} (h : i < Rs.length) : setL (Rs.map Sl.v) (0 + i * 1) (Value.slice y.a y.n y.c).cells.toList = (Rs.set i y).map Sl.v := by
 have := setL_cons (cs := Rs.map Sl.v) (off := i) (v := y.v) (vs := []) (by rw [List.length_map]; exact h)
 rw [setL_nil] at this
 rw [List.map_set, Nat.zero_add, Nat.mul_one]
 exact this.symm
theorem rats_set {T : List Rat} (h : RatsN u L T K) (hj : j < T.length) (hr : RatN u r q K) : RatsN u (L.set j r) (T.set j q) K := by
 refine ⟨by rw [List.length_set, List.length_set]; exact h.1, fun i hi => ?_⟩
 rw [List.length_set] at hi
 by_cases e : j = i
 ·subst e; rw [getD_set_same (by rw [h.1]; exact hj), getD_set_same hj]; exact hr
 rw [getD_set_other e, getD_set_other e]; exact h.2 i hi
theorem made_sls (n : Nat) : (madeCells (Value.slice none 0 0).cells (n * 1)).toList = (List.replicate n sl0).map Sl.v := by
 unfold madeCells
 rw [List.map_replicate]
 refine List.eq_replicate_iff.2 ⟨by simp, fun b hb => ?_⟩
 simp at hb
 obtain ⟨x, _, rfl⟩ := hb
 have s1 : (Value.slice none 0 0).cells.size = 1 := rfl
 rw [s1, Nat.mod_one]; rfl
theorem MutQ.el1 {ty : TypeId} (m : MutQ (1 * 3) ty lo u y (rcs L)) (hj : j < L.length) : ∃ b, y.a = some ⟨b, 0, none⟩ ∧ ∀ q, q < (L.getD j rl0).cs.length → u.cell? ⟨b, 0 + j * 3 + q, none⟩ = (L.getD j rl0).cs[q]? := by
 obtain ⟨b, h1, h2⟩ := m.el (j := j) yz xq
 refine ⟨b, h1, fun q hq => ?_⟩
 have e : (L.drop (j * 1)).take 1 = [L.getD j rl0] := by
  rw [Nat.mul_one, List.getD_eq_getElem?_getD, List.getElem?_eq_getElem hj, List.drop_eq_getElem_cons hj]; rfl
 rw [e] at h2
 have e2 : rcs [L.getD j rl0] = (L.getD j rl0).cs := by simp [rcs]
 rw [e2] at h2
 exact h2 q hq
end
namespace Nt
section
variable {l m : List Rat} {D E A B n : Nat}
theorem add_lenQ {a b : Nat} (h1 : l.length ≤ a) (h2 : m.length ≤ b) : (trimQ (addQ l m)).length ≤ max a b := Nat.le_trans (zzh _) (by rw [addQ_len]; omega)
theorem map_lenQ {a : Nat} {f : Rat → Rat} (h1 : l.length ≤ a) : (trimQ (l.map f)).length ≤ a := Nat.le_trans (zzh _) (by rw [List.length_map]; omega)
end
end Nt
end Go.Proofs.YtgmkhhfbckjaeaaGreat
namespace Go.Proofs.YtgmkhhfbckjaeaaGreat.Nt
open Go.RowKit
open Pol
def lin (r : Rat) : Pol := mk' [-r, ((1 : Int) : Rat)]
end Go.Proofs.YtgmkhhfbckjaeaaGreat.Nt
namespace Go.Proofs.YtgmkhhfbckjaeaaGreat
namespace Nt
section
variable {a1 a2 b1 b2 c1 c2 d1 d2 : Rat}
def hl (a b c d : Rat) : Rat := lo (lo a b) (lo c d)
def hh (a b c d : Rat) : Rat := hi (hi a b) (hi c d)
end
end Nt
end Go.Proofs.YtgmkhhfbckjaeaaGreat
namespace Go.Proofs.YtgmkhhfbckjaeaaGreat.Nt
open Go.RowKit
open Pol
section
variable {l m W : List Rat} {x q : Rat} {i A B C : Nat}
def hp (q : Rat) (i : Nat) : Rat := (((q.den ^ (i - 1) : Nat) : Int) : Rat)
def hs (W : List Rat) (q : Rat) (i : Nat) : Rat := hp q i * evL (W.drop (W.length - i)) q
end
end Go.Proofs.YtgmkhhfbckjaeaaGreat.Nt
namespace Go.Proofs.YtgmkhhfbckjaeaaGreat
open Go.RowKit
def PasOK (f : Int) (p : PL) : Prop := (p.o = 1 ∧ p.h = 0 ∨ p.o = 2) ∧ -Nt.p2i f < p.g ∧ p.g < Nt.p2i f ∧ -Nt.p2i f < p.h ∧ p.h < Nt.p2i f
namespace Nt
def wq (z f : Int) : Rat := ((z : Int) : Rat) / ((p2i f : Int) : Rat)
end Nt
open Go.ChangeShapes Go.WideShapes
theorem wrap64_ex (n : Int) : ∃ z, IntKind.i64.wrap n = z ∧ -9223372036854775808 ≤ z ∧ z ≤ 9223372036854775807 := ⟨_, rfl, by rw [IntKind.wrap_i64]; omega⟩
theorem int_one (z : Int) : ∀ v ∈ [Value.int .i64 z], v.oneCell' = true := fun v hv => by
 rcases List.mem_cons.1 hv with rfl | hv
 ·rfl
 cases hv
end Go.Proofs.YtgmkhhfbckjaeaaGreat
namespace Go.Proofs.YtgmkhhfbckjaeaaGreat
open Go.RowKit
def Rows (k : Nat) (L : List (List Int)) : Prop := ∀ p ∈ L, p.length = k
def gi (L : List (List Int)) (i j : Nat) : Int := (L.getD i []).getD j 0
namespace Nt
def shOK (n : Int) (s : List Int) : Prop := 0 ≤ s.getD 0 0 ∧ s.getD 0 0 < n ∧ 0 ≤ s.getD 1 0 ∧ s.getD 1 0 < n ∧ -2 ≤ s.getD 3 0 ∧ s.getD 3 0 ≤ 20 ∧ (s.getD 0 0 = s.getD 1 0 ↔ s.getD 3 0 = -2) ∧ (s.getD 3 0 < 0 → s.getD 2 0 = 0) ∧ -2097152 ≤ s.getD 2 0 ∧ s.getD 2 0 ≤ 2097152
instance (n : Int) (s : List Int) : Decidable (shOK n s) := by unfold shOK; infer_instance
def W32 (l : List Int) : Prop := ∀ i, i < l.length → -2147483648 ≤ l.getD i 0 ∧ l.getD i 0 ≤ 2147483647
end Nt
namespace Nt
section
variable {l : List Int} {s : List Int} {t f : Nat} {cf sh sg x n : Int}
def shV (n : Int) (S : List (List Int)) : Prop := 1 ≤ n ∧ n ≤ 64 ∧ S.length ≤ 64 ∧ ∀ i, i < S.length → shOK n (S.getD i [])
instance (n : Int) (S : List (List Int)) : Decidable (shV n S) := by unfold shV; infer_instance
instance (l : List Int) : Decidable (W32 l) := by unfold W32; infer_instance
end
end Nt
end Go.Proofs.YtgmkhhfbckjaeaaGreat
namespace Go.Proofs.YtgmkhhfbckjaeaaGreat
namespace Nt
def su (f : Nat → Rat) : Nat → Rat
 | 0 => 0
 | n + 1 => su f n + f n
section
variable {f g : Nat → Rat} {n m : Nat}
theorem su_s : su f (n + 1) = su f n + f n := rfl
theorem su_congr (h : ∀ i, i < n → f i = g i) : su f n = su g n := by
 induction n with
 | zero => rfl
 | succ n ih => rw [su_s, su_s, ih (fun i hi => h i xq), h n xq]
theorem su_add : su (fun i => f i + g i) n = su f n + su g n := by
 induction n with
 | zero => show (0 : Rat) = 0 + 0; grind
 | succ n ih => rw [su_s, su_s, su_s, ih]; grind
theorem su_mul (c : Rat) : su (fun i => c * f i) n = c * su f n := by
 induction n with
 | zero => show (0 : Rat) = c * 0; grind
 | succ n ih => rw [su_s, su_s, ih]; grind
theorem su_le (h : ∀ i, i < n → f i ≤ g i) : su f n ≤ su g n := by
 induction n with
 | zero => exact Rat.le_refl
 | succ n ih =>
  have h1 := ih (fun i hi => h i xq)
  have h2 := h n xq
  rw [su_s, su_s]; grind
theorem su_0 (h : ∀ i, i < n → f i = 0) : su f n = 0 := by
 induction n with
 | zero => rfl
 | succ n ih => rw [su_s, ih (fun i hi => h i xq), h n xq]; grind
theorem su_nn (h : ∀ i, i < n → 0 ≤ f i) : 0 ≤ su f n := by
 induction n with
 | zero => exact Rat.le_refl
 | succ n ih =>
  have h1 := ih (fun i hi => h i xq)
  have h2 := h n xq
  rw [su_s]; grind
theorem su_head : su f (n + 1) = f 0 + su (fun i => f (i + 1)) n := by
 induction n with
 | zero => show (0 : Rat) + f 0 = f 0 + 0; grind
 | succ n ih => rw [su_s, ih, su_s]; grind
theorem su_split (n m : Nat) : su f (n + m) = su f n + su (fun i => f (n + i)) m := by
 induction m with
 | zero => show su f n = su f n + 0; grind
 | succ m ih => rw [← Nat.add_assoc, su_s, ih, su_s]; grind
theorem su_mono (h : ∀ i, 0 ≤ f i) (hnm : n ≤ m) : su f n ≤ su f m := by
 obtain ⟨k, rfl⟩ : ∃ k, m = n + k := ⟨m - n, by omega⟩
 have h1 : 0 ≤ su (fun i => f (n + i)) k := su_nn (fun i _ => h _)
 rw [su_split]; grind
theorem su_swap {F : Nat → Nat → Rat} : su (fun i => su (F i) m) n = su (fun j => su (fun i => F i j) n) m := by
 induction n with
 | zero => exact (su_0 (fun i _ => rfl)).symm
 | succ n ih =>
  rw [su_s, ih, ← su_add]
  exact su_congr (fun i _ => rfl)
theorem su_rev : su (fun i => f (n - i)) (n + 1) = su f (n + 1) := by
 induction n with
 | zero => rfl
 | succ n ih =>
  rw [su_head, su_s (f := f) (n := n + 1), ← ih]
  have e : su (fun i => f (n + 1 - (i + 1))) (n + 1) = su (fun i => f (n - i)) (n + 1) := su_congr (fun i _ => by rw [Nat.add_sub_add_right])
  rw [e, Nat.sub_zero]; grind
end
end Nt
namespace Nt
def up (M : Nat → Nat → Rat) (k : Nat) (v : Nat → Rat) : Nat → Nat → Rat := fun r => if r = k then v else M r
end Nt
open Go.RowKit
def OkR (k : Nat) (L : List (List Int)) : Prop := ∀ p ∈ L, p.length = k ∧ ∀ z ∈ p, -16777216 ≤ z ∧ z ≤ 16777216
variable {k lo lo' h b n c i : Nat} {ty t2 : TypeId} {u u' : World} {x y : Sl}
theorem nodes_at {Ls : List Sl} (m : MutL 1 ty lo u x (Ls.map Sl.v)) (hk : i < Ls.length) : ∃ b, x.a = some ⟨b, 0, none⟩ ∧ u.cell? ⟨b, 0 + i * 1, none⟩ = some (.slice (Ls.getD i sl0).a (Ls.getD i sl0).n (Ls.getD i sl0).c) := by
 obtain ⟨b, h1, h2⟩ := MutL.cell (j := i) m (by rw [List.length_map]; exact hk)
 refine ⟨b, h1, ?_⟩
 rw [Nat.mul_one, h2, List.getElem?_map, List.getD_eq_getElem?_getD, List.getElem?_eq_getElem hk]
 rfl
theorem terms_at {T : List TL} (m : MutL 2 ty lo u x (tcs T)) (hi : i < T.length) : ∃ b, x.a = some ⟨b, 0, none⟩ ∧ ∀ j, j < (T.getD i tl0).cs.length → u.cell? ⟨b, 0 + i * 2 + j, none⟩ = (T.getD i tl0).cs[j]? := by
 obtain ⟨b, h1, h2⟩ := MutL.cell (j := i * 2) m (by rw [tcs_len]; omega)
 refine ⟨b, h1, fun j hj => ?_⟩
 have hj : j < 2 := hj
 obtain ⟨b2, g1, g2⟩ := MutL.cell (j := i * 2 + j) m (by rw [tcs_len]; omega)
 rw [h1] at g1; injection g1 with g1; injection g1 with g1; subst g1
 rw [Nat.add_assoc, g2]
 exact tcs_at hi j hj
theorem tms_len {T : List TL} (m : MutL 2 ty lo u x (tcs T)) : x.n = T.length := by
 have := m.1
 rw [tcs_len] at this
 omega
theorem MutL.slr {l : List Int} (m : MutL 1 ty lo u x (ics l)) : SlR .i64 u x.a x.n x.c l := by
 have h1 := m.1
 rw [zwj] at h1
 refine ⟨by omega, m.2.1, m.2.2.1, fun hp => ?_⟩
 obtain ⟨b, e, _⟩ := MutL.cell (j := 0) m (by rw [zwj]; omega)
 refine ⟨b, 0, e, m.lt e, fun i hi => ?_⟩
 obtain ⟨b2, e2, g⟩ := MutL.cell (j := i) m (by rw [zwj]; omega)
 rw [e] at e2; injection e2 with e2; injection e2 with e2; subst e2
 rw [g, ics_at xq, List.getD_eq_getElem?_getD]
end Go.Proofs.YtgmkhhfbckjaeaaGreat
namespace Go.Proofs.YtgmkhhfbckjaeaaGreat
open Go.RowKit
theorem ty2 : TyIs Tryz.prog 2 false 1 := fun w => ⟨by kernel_rfl, by kernel_rfl⟩
theorem ty3 : TyIs Tryz.prog 3 false 1 := fun w => ⟨by kernel_rfl, by kernel_rfl⟩
theorem ty4 : TyIs Tryz.prog 4 false 1 := fun w => ⟨by kernel_rfl, by kernel_rfl⟩
theorem ty22 : TyIs Tryz.prog 22 false 1 := fun w => ⟨by kernel_rfl, by kernel_rfl⟩
theorem ty26 : TyIs Tryz.prog 26 false 1 := fun w => ⟨by kernel_rfl, by kernel_rfl⟩
theorem ty27 : TyIs Tryz.prog 27 false 1 := fun w => ⟨by kernel_rfl, by kernel_rfl⟩
theorem ty28 : TyIs Tryz.prog 28 false 1 := fun w => ⟨by kernel_rfl, by kernel_rfl⟩
theorem ty30 : TyIs Tryz.prog 30 true 2 := fun w => ⟨by kernel_rfl, by kernel_rfl⟩
theorem ty32 : TyIs Tryz.prog 32 true 3 := fun w => ⟨by kernel_rfl, by kernel_rfl⟩
theorem ty66 : TyIs Tryz.prog 66 true 4 := fun w => ⟨by kernel_rfl, by kernel_rfl⟩
theorem ty70 : TyIs Tryz.prog 70 false 1 := fun w => ⟨by kernel_rfl, by kernel_rfl⟩
theorem ty72 : TyIs Tryz.prog 72 true 12 := fun w => ⟨by kernel_rfl, by kernel_rfl⟩
theorem ty75 : TyIs Tryz.prog 75 false 1 := fun w => ⟨by kernel_rfl, by kernel_rfl⟩
theorem ty77 : TyIs Tryz.prog 77 true 6 := fun w => ⟨by kernel_rfl, by kernel_rfl⟩
theorem ty81 : TyIs Tryz.prog 81 true 2 := fun w => ⟨by kernel_rfl, by kernel_rfl⟩
theorem ty133 : TyIs Tryz.prog 133 false 1 := fun w => ⟨by kernel_rfl, by kernel_rfl⟩
theorem ty147 : TyIs Tryz.prog 147 true 2 := fun w => ⟨by kernel_rfl, by kernel_rfl⟩
theorem ty148 : TyIs Tryz.prog 148 false 1 := fun w => ⟨by kernel_rfl, by kernel_rfl⟩
theorem ty150 : TyIs Tryz.prog 150 true 1 := fun w => ⟨by kernel_rfl, by kernel_rfl⟩
theorem ty195 : TyIs Tryz.prog 195 true 3 := fun w => ⟨by kernel_rfl, by kernel_rfl⟩
theorem ty197 : TyIs Tryz.prog 197 true 4 := fun w => ⟨by kernel_rfl, by kernel_rfl⟩
theorem sl22 : SlIs Tryz.prog 22 1 := ⟨3, false, by kernel_rfl, ty3⟩
theorem sl26 : SlIs Tryz.prog 26 3 := ⟨32, true, by kernel_rfl, ty32⟩
theorem sl27 : SlIs Tryz.prog 27 3 := ⟨32, true, by kernel_rfl, ty32⟩
theorem sl28 : SlIs Tryz.prog 28 1 := ⟨133, false, by kernel_rfl, ty133⟩
theorem sl70 : SlIs Tryz.prog 70 1 := ⟨150, true, by kernel_rfl, ty150⟩
theorem sl75 : SlIs Tryz.prog 75 1 := ⟨26, false, by kernel_rfl, ty26⟩
theorem sl148 : SlIs Tryz.prog 148 2 := ⟨147, true, by kernel_rfl, ty147⟩
theorem k_riTrim {u w : World} {i1 : IL} {zN : Int} {K : Nat} (d : Dat u w) (hi1 : IntV u i1 zN K) (hK : K ≤ 500000000) : Calls Tryz.prog 154 #[i1.v] w (Post u w fun v u' => ∃ i : IL, v = i.v ∧ IntN u' i zN K) := by
 obtain ⟨N, hN, hzN⟩ := hi1
 refine zzm (args := [i1.v]) Tryz.func154 rfl Tryz.ntmps154 (rs := [.cell 2 30]) Tryz.results154 (le_b rfl) (le_b rfl) d ?_
 refine sq9 (zzk 1 ⟨30, i1.cs⟩ (zzk 2 ⟨30, [.bool false, .slice none 0 0]⟩ (zzb (sq9 (zza 4 (.adr 1 1) (zzi 5 (.v (i1.m.v)) ty28 zzl (zzg 6 157 _ fun _ _ ae ac => Post.mono (k_rnTrim ac (hN.ext ae) xq) ?_)))))))
 rintro _ u14 g15 ⟨aa, rfl, ab⟩
 refine zza 3 (.v (aa.v)) (zzb (sq9 (zza 7 (.adr 1 0) (zzi 8 (zB i1.s) ty4 zzl ?_))))
 rcases Bool.eq_false_or_eq_true i1.s with hs17 | hs17
 ·refine zyq 9 (x := zB i1.s) (zB true) (by rw [hs17]) (zza 10 (.v (aa.v)) ?_ (hw := w1 2 true 9))
  refine zza 11 (zI aa.n) ?_ (hw := w1 2 true 9)
  refine zza 12 (zB (decide ((0 : Int) < (aa.n : Int)))) ?_ (hw := w1 2 true 9)
  refine zza 13 (zB (decide ((0 : Int) < (aa.n : Int)))) (zza 14 (.v (aa.v)) (zza 15 (.v (.agg #[.bool (decide ((0 : Int) < (aa.n : Int))), aa.v])) (zzj ⟨30, [.bool (decide ((0 : Int) < (aa.n : Int))), aa.v]⟩ ty30 ?_)))
  refine zzb (zzo (ret0 [.agg #[.bool (decide ((0 : Int) < (aa.n : Int))), aa.v]] ⟨zzr ty30 zze, trivial⟩ fun u18 af => ?_))
  refine ⟨⟨_, aa⟩, rfl, ?_⟩
  rw [hzN, hs17]
  exact signed_int (s := true) (ab.ext af)
 refine zyq 9 (x := zB i1.s) (zB false) (by rw [hs17]) (zzn 10 (uw 2 true false 9) (zzn 11 (uw 2 true false 9) (zzn 12 (uw 2 true false 9) (zza 13 (zB false) (zza 14 (.v (aa.v)) (zza 15 (.v (.agg #[.bool false, aa.v])) (zzj ⟨30, [.bool false, aa.v]⟩ ty30 ?_)))))))
 refine zzb (zzo (ret0 [.agg #[.bool false, aa.v]] ⟨zzr ty30 zze, trivial⟩ fun u20 ad => ?_))
 refine ⟨⟨_, aa⟩, rfl, ?_⟩
 rw [hzN, hs17]
 exact signed_int (s := false) (ab.ext ad)
theorem k_riSign {u w : World} {i1 : IL} {zN : Int} {K : Nat} (d : Dat u w) (hi1 : IntV u i1 zN K) (hK : K ≤ 500000000) : Calls Tryz.prog 96 #[i1.v] w (Post u w fun v u' => v = .int .i64 (Nt.cmpS zN 0)) := by
 refine zzm (args := [i1.v]) Tryz.func96 rfl Tryz.ntmps96 (rs := [.tmp 2]) Tryz.results96 (le_b rfl) (le_b rfl) d ?_
 refine sq9 (zzk 1 ⟨30, i1.cs⟩ (zza 2 (zI 0) (zzb (sq9 (zzi 3 (.v (i1.v)) ty30 zze (zzg 4 154 _ fun _ _ ag af => Post.mono (k_riTrim af (hi1.ext ag) xq) ?_))))))
 rintro _ u14 g15 ⟨ac, rfl, ae⟩
 refine zzj ⟨30, ac.cs⟩ ty30 ?_
 refine zzb (zzd (zzt (sq9 (zza 6 (.adr 1 1) (zzi 7 (.v (ac.m.v)) ty28 zzl (zza 8 (zI ac.m.n) (zza 9 (zB ((ac.m.n : Int) == 0)) (zza 5 (zB ((ac.m.n : Int) == 0)) (zzb (zzu (b := (ac.m.n : Int) == 0) xj (fun ab => ?_) (fun ab => ?_)))))))))))
 ·have ad : (ac.m.n : Int) = 0 := by simpa using ab
  refine sq9 (zza 2 (zI 0) (zzb (zzo (zyu (zzw (ret0 [.int .i64 0] ⟨zzq, trivial⟩ fun u18 e19 => ?_))))))
  show _ = _
  rw [sign_len ae, if_pos ab]
  rfl
 have ad : ¬ ((ac.m.n : Int) = 0) := by simpa using ab
 refine sq9 (zza 11 (.adr 1 0) (zzi 12 (zB ac.s) ty4 zzl (zza 10 (zB ac.s) (zzb (zzu (b := ac.s) xj (fun aa => ?_) (fun aa => ?_))))))
 ·replace aa : ac.s = true := aa
  refine sq9 (zza 2 (zI (-1)) (zzb (zzo (zyu (zzw (ret0 [.int .i64 (-1)] ⟨zzq, trivial⟩ fun u21 e22 => ?_))))))
  show _ = _
  rw [sign_len ae, if_neg (ne_true_of_eq_false ab), if_pos aa]
  rfl
 replace aa : ac.s = false := aa
 refine zzs (zzp ?_)
 refine sq9 (zza 2 (zI 1) (zzb (zzo (ret0 [.int .i64 1] ⟨zzq, trivial⟩ fun u23 e24 => ?_))))
 show _ = _
 rw [sign_len ae, if_neg (ne_true_of_eq_false ab), if_neg (ne_true_of_eq_false aa)]
 rfl
theorem k_riNeg {u w : World} {i1 : IL} {zN : Int} {K : Nat} (d : Dat u w) (hi1 : IntV u i1 zN K) (hK : K ≤ 500000000) : Calls Tryz.prog 81 #[i1.v] w (Post u w fun v u' => ∃ i : IL, v = i.v ∧ IntN u' i (-zN) K) := by
 refine zzm (args := [i1.v]) Tryz.func81 rfl Tryz.ntmps81 (rs := [.cell 2 30]) Tryz.results81 (le_b rfl) (le_b rfl) d ?_
 refine sq9 (zzk 1 ⟨30, i1.cs⟩ (zzk 2 ⟨30, [.bool false, .slice none 0 0]⟩ (zzb (sq9 (zzi 3 (.v (i1.v)) ty30 zze (zzg 4 154 _ fun _ _ ae ac => Post.mono (k_riTrim ac (hi1.ext ae) xq) ?_))))))
 rintro _ u14 g15 ⟨aa, rfl, ab⟩
 refine zzj ⟨30, aa.cs⟩ ty30 ?_
 refine zzb (sq9 (zza 5 (.adr 1 0) (zzi 6 (zB aa.s) ty4 zzl (zza 7 (zB (!aa.s)) ?_))))
 rcases Bool.eq_false_or_eq_true (!aa.s) with hs17 | hs17
 ·refine zyq 8 (x := zB (!aa.s)) (zB true) (by rw [hs17]) (zza 9 (.adr 1 1) ?_ (hw := w1 3 true 8))
  refine zzi 10 (.v (aa.m.v)) ty28 zzl ?_ (hw := w1 3 true 8)
  refine zza 11 (zI aa.m.n) ?_ (hw := w1 3 true 8)
  refine zza 12 (zB (decide ((0 : Int) < (aa.m.n : Int)))) ?_ (hw := w1 3 true 8)
  refine zza 13 (zB (decide ((0 : Int) < (aa.m.n : Int)))) (zza 14 (.adr 1 0) (zzj ⟨30, [.bool (decide ((0 : Int) < (aa.m.n : Int))), aa.m.v]⟩ ty4 ?_))
  refine zzb (sq9 (zzi 15 (.v (.agg #[.bool (decide ((0 : Int) < (aa.m.n : Int))), aa.m.v])) ty30 zze (zzj ⟨30, [.bool (decide ((0 : Int) < (aa.m.n : Int))), aa.m.v]⟩ ty30 ?_)))
  refine zzb (zzo (ret0 [.agg #[.bool (decide ((0 : Int) < (aa.m.n : Int))), aa.m.v]] ⟨zzr ty30 zze, trivial⟩ fun u18 af => ?_))
  refine ⟨⟨_, aa.m⟩, rfl, ?_⟩
  have h9 := neg_int (ab.ext af)
  rw [hs17] at h9
  exact h9
 refine zyq 8 (x := zB (!aa.s)) (zB false) (by rw [hs17]) (zzn 9 (uw 3 true false 8) (zzn 10 (uw 3 true false 8) (zzn 11 (uw 3 true false 8) (zzn 12 (uw 3 true false 8) (zza 13 (zB false) (zza 14 (.adr 1 0) (zzj ⟨30, [.bool false, aa.m.v]⟩ ty4 ?_)))))))
 refine zzb (sq9 (zzi 15 (.v (.agg #[.bool false, aa.m.v])) ty30 zze (zzj ⟨30, [.bool false, aa.m.v]⟩ ty30 ?_)))
 refine zzb (zzo (ret0 [.agg #[.bool false, aa.m.v]] ⟨zzr ty30 zze, trivial⟩ fun u20 ad => ?_))
 refine ⟨⟨_, aa.m⟩, rfl, ?_⟩
 have h9 := neg_int (ab.ext ad)
 rw [hs17] at h9
 exact h9
set_option maxHeartbeats 1000000 in
theorem k_riAdd {u w : World} {i1 : IL} {zN : Int} {K : Nat} {i2 : IL} {zM : Int} {L : Nat} (d : Dat u w) (hi1 : IntV u i1 zN K) (hi2 : IntV u i2 zM L) (hK : K ≤ 400000000) (hL : L ≤ 400000000) : Calls Tryz.prog 136 #[i1.v, i2.v] w (Post u w fun v u' => ∃ i : IL, v = i.v ∧ IntN u' i (zN + zM) (max K L + 1)) := by
 refine zzm (args := [i1.v, i2.v]) Tryz.func136 rfl Tryz.ntmps136 (rs := [.cell 4 30]) Tryz.results136 (le_b rfl) (le_b rfl) d ?_
 refine sq9 (zzk 2 ⟨30, i1.cs⟩ (zzk 3 ⟨30, i2.cs⟩ (zzk 4 ⟨30, [.bool false, .slice none 0 0]⟩ (zzb (zzd (zzz [0, 1, 0, 7, 15, 31] [(0, []), (2, []), (1, []), (3, []), (4, []), (5, [])] xj xj (zzi 5 (.v (i1.v)) ty30 zze (zzi 7 (.v (i2.v)) ty30 zze (zzg 6 154 _ fun _ _ aq au => Post.mono (k_riTrim au (hi1.ext aq) xq) ?_)))))))))
 rintro _ u14 aF ⟨aa, rfl, ae⟩
 refine zzg 8 154 _ fun _ _ ah aO => Post.mono (k_riTrim aO (hi2.ext (aq.t (aF.t ah))) xq) ?_
 rintro _ u20 aj ⟨ab, rfl, af⟩
 refine zzj ⟨30, aa.cs⟩ ty30 ?_
 refine zzj ⟨30, ab.cs⟩ ty30 ?_
 refine zzb (zzd (sq9 (zza 9 (.adr 2 0) (zzi 10 (zB aa.s) ty4 zzl (zza 11 (.adr 3 0) (zzi 12 (zB ab.s) ty4 zzl (zza 13 (zB (aa.s == ab.s)) (zzb (zzu (b := aa.s == ab.s) xj (fun ad => ?_) (fun ad => ?_))))))))))
 ·refine zzd (zzz [0, 1, 0, 4, 0, 16, 60, 127, 255, 511] [(0, []), (1, []), (2, []), (3, []), (4, []), (5, []), (6, []), (7, []), (8, []), (9, [])] xj xj (zza 14 (.adr 2 0) (zzi 15 (zB aa.s) ty4 zzl (zza 16 (.adr 2 1) (zzi 17 (.v (aa.m.v)) ty28 zzl (zza 18 (.adr 3 1) (zzi 19 (.v (ab.m.v)) ty28 zzl (zzg 20 189 _ fun _ _ an av => Post.mono (k_rnAdd av ((int_mag ae).ext (ah.t (aj.t an))).raw ((int_mag af).ext an).raw xq xq) ?_))))))))
  rintro _ u27 g28 ⟨aw, rfl, aC⟩
  refine zza 21 (.v (.agg #[.bool aa.s, aw.v])) (zzg 22 154 _ fun _ _ aH aK => Post.mono (k_riTrim aK (IntV.same (s := aa.s) (aC.ext aH).raw) xq) ?_)
  rintro _ u33 g34 ⟨am, rfl, aN⟩
  refine zzj ⟨30, am.cs⟩ ty30 ?_
  refine zzb (zzo (zzw (ret0 [am.v] ⟨zzr ty30 zze, trivial⟩ fun u36 aI => ?_)))
  refine ⟨am, rfl, IntN.more (K := (max K L + 1)) ?_ xq⟩
  have h9 : zN + zM = (Nt.sg aa.s ((zN : Int).natAbs + (zM : Int).natAbs)) := by
   rw [Nt.sg_add1 _ _ ad]
   rw [← IntN.sg ae, ← IntN.sg af]
  rw [h9]
  exact (aN.ext aI)
 refine zzs (zzp ?_)
 refine zzd (sq9 (zza 23 (.adr 2 1) (zzi 24 (.v (aa.m.v)) ty28 zzl (zza 25 (.adr 3 1) (zzi 26 (.v (ab.m.v)) ty28 zzl (zzg 27 190 _ fun _ _ ag aQ => Post.mono (k_rnCompare aQ ((int_mag ae).ext (ah.t (aj.t ag))).raw ((int_mag af).ext ag).raw xq xq) ?_))))))
 rintro _ u39 ai rfl
 refine zza 28 (zB (decide ((0 : Int) ≤ (Nt.cmpS ((zN : Int).natAbs) ((zM : Int).natAbs))))) (zzb (zzu (b := decide ((0 : Int) ≤ (Nt.cmpS ((zN : Int).natAbs) ((zM : Int).natAbs)))) xj (fun ac => ?_) (fun ac => ?_)))
 ·have qhb42 := of_decide_eq_true ac
  refine zzd (zzz [0, 1, 0, 4, 0, 16, 60, 127, 255, 511] [(0, []), (1, []), (2, []), (3, []), (4, []), (5, []), (6, []), (7, []), (8, []), (9, [])] xj xj (zza 29 (.adr 2 0) (zzi 30 (zB aa.s) ty4 zzl (zza 31 (.adr 2 1) (zzi 32 (.v (aa.m.v)) ty28 zzl (zza 33 (.adr 3 1) (zzi 34 (.v (ab.m.v)) ty28 zzl (zzg 35 191 _ fun _ _ ap aL => Post.mono (k_rnSub aL ((int_mag ae).ext (ah.t (aj.t (ag.t (ai.t ap))))).raw ((int_mag af).ext (ag.t (ai.t ap))).raw xq xq) ?_))))))))
  rintro _ u46 g47 ⟨aD, rfl, az⟩
  refine zza 36 (.v (.agg #[.bool aa.s, aD.v])) (zzg 37 154 _ fun _ _ ay ar => Post.mono (k_riTrim ar (IntV.same (s := aa.s) (az.ext ay).raw) xq) ?_)
  rintro _ u52 g53 ⟨al, rfl, aM⟩
  refine zzj ⟨30, al.cs⟩ ty30 ?_
  refine zzb (zzo (zzw (ret0 [al.v] ⟨zzr ty30 zze, trivial⟩ fun u55 aJ => ?_)))
  refine ⟨al, rfl, IntN.more (K := K) ?_ xq⟩
  have h9 : zN + zM = (Nt.sg aa.s ((zN : Int).natAbs - (zM : Int).natAbs)) := by
   rw [Nt.sg_add4 _ _ ad ac]
   rw [← IntN.sg ae, ← IntN.sg af]
  rw [h9]
  exact (aM.ext aJ)
 have qhb42 := of_decide_eq_false ac
 refine zzs (zzp ?_)
 refine zzd (zzz [0, 1, 0, 4, 0, 16, 60, 127, 255, 511] [(0, []), (1, []), (2, []), (3, []), (4, []), (5, []), (6, []), (7, []), (8, []), (9, [])] xj xj (zza 38 (.adr 3 0) (zzi 39 (zB ab.s) ty4 zzl (zza 40 (.adr 3 1) (zzi 41 (.v (ab.m.v)) ty28 zzl (zza 42 (.adr 2 1) (zzi 43 (.v (aa.m.v)) ty28 zzl (zzg 44 191 _ fun _ _ ao aR => Post.mono (k_rnSub aR ((int_mag af).ext (ag.t (ai.t ao))).raw ((int_mag ae).ext (ah.t (aj.t (ag.t (ai.t ao))))).raw xq xq) ?_))))))))
 rintro _ u60 g61 ⟨aG, rfl, aP⟩
 refine zza 45 (.v (.agg #[.bool ab.s, aG.v])) (zzg 46 154 _ fun _ _ aA ax => Post.mono (k_riTrim ax (IntV.same (s := ab.s) (aP.ext aA).raw) xq) ?_)
 rintro _ u66 g67 ⟨ak, rfl, aE⟩
 refine zzj ⟨30, ak.cs⟩ ty30 ?_
 refine zzb (zzo (ret0 [ak.v] ⟨zzr ty30 zze, trivial⟩ fun u69 aB => ?_))
 refine ⟨ak, rfl, IntN.more (K := L) ?_ xq⟩
 have h9 : zN + zM = (Nt.sg ab.s ((zM : Int).natAbs - (zN : Int).natAbs)) := by
  rw [Nt.sg_add5 _ _ ad ac]
  rw [← IntN.sg ae, ← IntN.sg af]
 rw [h9]
 exact (aE.ext aB)
theorem k_riSub {u w : World} {i1 : IL} {zN : Int} {K : Nat} {i2 : IL} {zM : Int} {L : Nat} (d : Dat u w) (hi1 : IntV u i1 zN K) (hi2 : IntV u i2 zM L) (hK : K ≤ 400000000) (hL : L ≤ 400000000) : Calls Tryz.prog 202 #[i1.v, i2.v] w (Post u w fun v u' => ∃ i : IL, v = i.v ∧ IntN u' i (zN - zM) (max K L + 1)) := by
 refine zzm (args := [i1.v, i2.v]) Tryz.func202 rfl Tryz.ntmps202 (rs := [.cell 4 30]) Tryz.results202 (le_b rfl) (le_b rfl) d ?_
 refine sq9 (zzk 2 ⟨30, i1.cs⟩ (zzk 3 ⟨30, i2.cs⟩ (zzk 4 ⟨30, [.bool false, .slice none 0 0]⟩ (zzb (zzd (zzz [0, 0, 2, 7, 15] [(0, []), (1, []), (2, []), (3, []), (4, [])] xj xj (zzi 5 (.v (i1.v)) ty30 zze (zzi 6 (.v (i2.v)) ty30 zze (zzg 7 81 _ fun _ _ ab ae => Post.mono (k_riNeg ae (hi2.ext ab) xq) ?_)))))))))
 rintro _ u14 ad ⟨i12, rfl, ah⟩
 refine zzg 8 136 _ fun _ _ ac af => Post.mono (k_riAdd af (hi1.ext (ab.t (ad.t ac))) (ah.ext ac).raw xq xq) ?_
 rintro _ u20 g21 ⟨aa, rfl, ag⟩
 refine zzj ⟨30, aa.cs⟩ ty30 ?_
 refine zzb (zzo (ret0 [aa.v] ⟨zzr ty30 zze, trivial⟩ fun u23 ai => ?_))
 refine ⟨aa, rfl, ?_⟩
 rw [Int.sub_eq_add_neg]
 exact (ag.ext ai)
theorem k_riCompare {u w : World} {i1 : IL} {zN : Int} {K : Nat} {i2 : IL} {zM : Int} {L : Nat} (d : Dat u w) (hi1 : IntV u i1 zN K) (hi2 : IntV u i2 zM L) (hK : K ≤ 400000000) (hL : L ≤ 400000000) : Calls Tryz.prog 150 #[i1.v, i2.v] w (Post u w fun v u' => v = .int .i64 (Nt.cmpS zN zM)) := by
 refine zzm (args := [i1.v, i2.v]) Tryz.func150 rfl Tryz.ntmps150 (rs := [.tmp 4]) Tryz.results150 (le_b rfl) (le_b rfl) d ?_
 refine sq9 (zzk 2 ⟨30, i1.cs⟩ (zzk 3 ⟨30, i2.cs⟩ (zza 4 (zI 0) (zzb (sq9 (zzi 5 (.v (i1.v)) ty30 zze (zzi 6 (.v (i2.v)) ty30 zze (zzg 7 202 _ fun _ _ aa ab => Post.mono (k_riSub ab (hi1.ext aa) (hi2.ext aa) xq xq) ?_))))))))
 rintro _ u14 g15 ⟨i12, rfl, ad⟩
 refine zzg 8 96 _ fun _ _ ae ac => Post.mono (k_riSign ac (ad.ext ae).raw xq) ?_
 rintro _ u18 g19 rfl
 refine zza 4 (zI (Nt.cmpS (zN - zM) 0)) (zzb (zzo (ret0 [.int .i64 (Nt.cmpS (zN - zM) 0)] ⟨zzq, trivial⟩ fun u21 e22 => ?_)))
 show Value.int _ _ = Value.int _ _
 rw [Nt.cmp_self_sub]
theorem k_riMul {u w : World} {i1 : IL} {zN : Int} {K : Nat} {i2 : IL} {zM : Int} {L : Nat} (d : Dat u w) (hi1 : IntV u i1 zN K) (hi2 : IntV u i2 zM L) (hK : K ≤ 250000000) (hL : L ≤ 250000000) : Calls Tryz.prog 137 #[i1.v, i2.v] w (Post u w fun v u' => ∃ i : IL, v = i.v ∧ IntN u' i (zN * zM) (K + L)) := by
 obtain ⟨N, hN, hzN⟩ := hi1
 obtain ⟨M, hM, hzM⟩ := hi2
 refine zzm (args := [i1.v, i2.v]) Tryz.func137 rfl Tryz.ntmps137 (rs := [.cell 4 30]) Tryz.results137 (le_b rfl) (le_b rfl) d ?_
 refine sq9 (zzk 2 ⟨30, i1.cs⟩ (zzk 3 ⟨30, i2.cs⟩ (zzk 4 ⟨30, [.bool false, .slice none 0 0]⟩ (zzb (zzd (zzz [0, 1, 0, 4, 15, 0, 32, 0, 128, 480, 1023, 2047, 4095] [(0, []), (1, []), (2, []), (3, []), (4, []), (5, []), (6, []), (7, []), (8, []), (9, []), (10, []), (11, []), (12, [])] xj xj (zza 5 (.adr 2 0) (zzi 6 (zB i1.s) ty4 zzl (zza 7 (.adr 3 0) (zzi 8 (zB i2.s) ty4 zzl (zza 9 (zB (!(i1.s == i2.s))) ?_)))))))))))
 refine zza 10 (.adr 2 1) (zzi 11 (.v (i1.m.v)) ty28 zzl (zza 12 (.adr 3 1) (zzi 13 (.v (i2.m.v)) ty28 zzl (zzg 14 192 _ fun _ _ ab ad => Post.mono (k_rnMul ad (hN.ext ab) (hM.ext ab) xq xq) ?_))))
 rintro _ u14 g15 ⟨ac, rfl, ag⟩
 refine zza 15 (.v (.agg #[.bool (!(i1.s == i2.s)), ac.v])) (zzg 16 154 _ fun _ _ ah ae => Post.mono (k_riTrim ae (IntV.same (s := !(i1.s == i2.s)) (ag.ext ah).raw) xq) ?_)
 rintro _ u20 g21 ⟨aa, rfl, af⟩
 refine zzj ⟨30, aa.cs⟩ ty30 ?_
 refine zzb (zzo (ret0 [aa.v] ⟨zzr ty30 zze, trivial⟩ fun u23 ai => ?_))
 refine ⟨aa, rfl, IntN.more (K := (K + L)) ?_ xq⟩
 rw [hzN, hzM, ← Nt.sg_mul]
 exact (af.ext ai)
theorem k_riGcd {u w : World} {i1 : IL} {zN : Int} {K : Nat} {i2 : IL} {zM : Int} {L : Nat} (d : Dat u w) (hi1 : IntV u i1 zN K) (hi2 : IntV u i2 zM L) (hK : K ≤ 500000000) (hL : L ≤ 500000000) : Calls Tryz.prog 155 #[i1.v, i2.v] w (Post u w fun v u' => ∃ i : IL, v = i.v ∧ IntN u' i (Nat.gcd zN.natAbs zM.natAbs : Int) (max K L)) := by
 refine zzm (args := [i1.v, i2.v]) Tryz.func155 rfl Tryz.ntmps155 (rs := [.cell 4 30]) Tryz.results155 (le_b rfl) (le_b rfl) d ?_
 refine sq9 (zzk 2 ⟨30, i1.cs⟩ (zzk 3 ⟨30, i2.cs⟩ (zzk 4 ⟨30, [.bool false, .slice none 0 0]⟩ (zzb (sq9 (zza 5 (.adr 2 1) (zzi 6 (.v (i1.m.v)) ty28 zzl (zza 7 (.adr 3 1) (zzi 8 (.v (i2.m.v)) ty28 zzl (zzg 9 203 _ fun _ _ ab ac => Post.mono (k_rnGcd ac ((IntV.abs hi1).ext ab) ((IntV.abs hi2).ext ab) xq xq) ?_))))))))))
 rintro _ u14 g15 ⟨aa, rfl, ae⟩
 refine zza 10 (.v (.agg #[.bool false, aa.v])) (zzj ⟨30, [.bool false, aa.v]⟩ ty30 ?_)
 refine zzb (zzo (ret0 [.agg #[.bool false, aa.v]] ⟨zzr ty30 zze, trivial⟩ fun u17 ad => ?_))
 exact ⟨(⟨false, aa⟩ : IL), rfl, (nat_intN (ae.ext ad))⟩
theorem k_riSame {u w : World} {i1 i2 : IL} {z z' : Int} {K L : Nat} (d : Dat u w) (hi1 : IntN u i1 z K) (hi2 : IntN u i2 z' L) : Calls Tryz.prog 74 #[i1.v, i2.v] w (Post u w fun v _ => v = .bool (decide (z = z'))) := by
 refine zzm (args := [i1.v, i2.v]) Tryz.func74 rfl Tryz.ntmps74 (rs := [.tmp 4]) Tryz.results74 (le_b rfl) (le_b rfl) d ?_
 refine sq9 (zzk 2 ⟨30, i1.cs⟩ (zzk 3 ⟨30, i2.cs⟩ (zza 4 (zB false) (zzb (sq9 (zza 5 (.adr 2 0) (zzi 6 (zB i1.s) ty4 zzl (zza 7 (.adr 3 0) (zzi 8 (zB i2.s) ty4 zzl (zza 9 (zB (i1.s == i2.s)) ?_))))))))))
 rcases Bool.eq_false_or_eq_true (i1.s == i2.s) with hs11 | hs11
 ·refine zyq 10 (x := zB (i1.s == i2.s)) (zB true) (by rw [hs11]) (zza 11 (.adr 2 1) ?_ (hw := w1 5 true 10))
  refine zzi 12 (.v (i1.m.v)) ty28 zzl ?_ (hw := w1 5 true 10)
  refine zza 13 (.adr 3 1) ?_ (hw := w1 5 true 10)
  refine zzi 14 (.v (i2.m.v)) ty28 zzl ?_ (hw := w1 5 true 10)
  refine zzg 15 75 _ (fun _ _ aa ab => Post.mono (k_rnSame ab ((int_mag hi1).ext aa) ((int_mag hi2).ext aa)) ?_) (hw := w1 5 true 10)
  rintro _ u13 g14 rfl
  refine zza 16 (zB (decide ((z : Int).natAbs = (z' : Int).natAbs))) (zza 4 (zB (decide ((z : Int).natAbs = (z' : Int).natAbs))) (zzb (zzo (ret0 [.bool (decide ((z : Int).natAbs = (z' : Int).natAbs))] ⟨zzq, trivial⟩ fun u16 e17 => ?_))))
  show _ = _
  rw [← same_int hi1 hi2, hs11]
  rfl
 refine zyq 10 (x := zB (i1.s == i2.s)) (zB false) (by rw [hs11]) (zzn 11 (uw 5 true false 10) (zzn 12 (uw 5 true false 10) (zzn 13 (uw 5 true false 10) (zzn 14 (uw 5 true false 10) (zzn 15 (uw 5 true false 10) (zza 16 (zB false) (zza 4 (zB false) (zzb (zzo (ret0 [.bool false] ⟨zzq, trivial⟩ fun u18 e19 => ?_))))))))))
 show _ = _
 rw [← same_int hi1 hi2, hs11]
 rfl
theorem k_riOf {u w : World} {z : Int} (d : Dat u w) (h0 : -9223372036854775808 ≤ z) (h1 : z ≤ 9223372036854775807) : Calls Tryz.prog 85 #[.int .i64 z] w (Post u w fun v u' => ∃ i : IL, v = i.v ∧ IntN u' i z 2) := by
 by_cases hneg : z < 0
 ·refine zzm (args := [.int .i64 z]) Tryz.func85 rfl Tryz.ntmps85 (rs := [.cell 2 30]) Tryz.results85 (le_b rfl) (le_b rfl) d ?_
  refine sq9 (zzk 2 ⟨30, [.bool false, .slice none 0 0]⟩ (zzb (zzd (sq9 (zza 4 (zI z) (zyq 5 (x := zB (decide (z < 0))) (zB true) (by rw [show (decide (z < 0)) = true from zx]) (zzb (zyr xj (sq9 (zza 6 (zI z) (zyq 7 (x := zI (IntKind.i64.wrap (z + 1))) (zI (z + 1)) (by rw [show (IntKind.i64.wrap (z + 1)) = (z + 1) from (IntWalk.i64_in _ xq)]) ?_)))))))))))
  refine zyq 8 (x := zI (IntKind.i64.wrap (0 - (z + 1)))) (zI (-z - 1)) (by rw [show (IntKind.i64.wrap (0 - (z + 1))) = (-z - 1) from yq]) (zyq 9 (x := .v (.int .u64 (IntKind.u64.wrap (-z - 1)))) (.v (.int .u64 (-z - 1))) (by rw [show (IntKind.u64.wrap (-z - 1)) = (-z - 1) from (IntWalk.u64_in _ xq)]) (zyq 10 (x := .v (.int .u64 (IntKind.u64.wrap (-z - 1 + 1)))) (.v (.int .u64 (-z))) (by rw [show (IntKind.u64.wrap (-z - 1 + 1)) = (-z) from (by rw [IntWalk.u64_in _ xq]; omega)]) (zza 3 (.v (.int .u64 (-z))) (zzb (sq9 (zza 11 (.v (.int .u64 (-z))) (zyq 12 (x := .v (.int .u32 (IntKind.u32.wrap (-z)))) (.v (.int .u32 ((-z) % 4294967296))) (by rw [show (IntKind.u32.wrap (-z)) = ((-z) % 4294967296) from (IntKind.wrap_u32 _)]) (zza 13 (.v (.int .u64 (-z))) (zyq 14 (x := .v (.int .u64 (Int.fdiv (-z) (2 ^ 32)))) (.v (.int .u64 ((-z) / 4294967296))) (by rw [show (Int.fdiv (-z) (2 ^ 32)) = ((-z) / 4294967296) from (by rw [Int.fdiv_eq_ediv_of_nonneg _ yz]; rfl)]) (zyq 15 (x := .v (.int .u32 (IntKind.u32.wrap ((-z) / 4294967296)))) (.v (.int .u32 ((-z) / 4294967296))) (by rw [show (IntKind.u32.wrap ((-z) / 4294967296)) = ((-z) / 4294967296) from (IntWalk.u32_in _ xq)]) (zxx 16 ⟨133, [.int .u32 ((-z) % 4294967296), .int .u32 ((-z) / 4294967296)]⟩ 2 (fun ab al ah ac => ?_))))))))))))
  refine zza 17 (.v (.agg #[.bool true, .slice (some ⟨ab, 0, none⟩) 2 2])) (zzg 18 154 [.agg #[.bool true, .slice (some ⟨ab, 0, none⟩) 2 2]] ?_)
  intro w15 u15 ag ae
  have k20 := k_riTrim ae (IntV.same (s := true) ((two_data (N := z.natAbs) ac xq xq xq).ext ag)) xq
  with_reducible refine zPm k20 ?_
  rintro _ aj ai ⟨aa, rfl, af⟩
  refine zzj ⟨30, aa.cs⟩ ty30 ?_
  refine zzb (zzo (zzw (ret0 [aa.v] ⟨zzr ty30 zze, trivial⟩ fun ak ad => ?_)))
  refine ⟨aa, rfl, IntN.more (K := 2) ?_ xq⟩
  have e : z = Nt.sg true z.natAbs := by unfold Nt.sg; simp; omega
  rw [e]
  exact (af.ext ad)
 refine zzm (args := [.int .i64 z]) Tryz.func85 rfl Tryz.ntmps85 (rs := [.cell 2 30]) Tryz.results85 (le_b rfl) (le_b rfl) d ?_
 refine sq9 (zzk 2 ⟨30, [.bool false, .slice none 0 0]⟩ (zzb (zzd (sq9 (zza 4 (zI z) (zyq 5 (x := zB (decide (z < 0))) (zB false) (by rw [show (decide (z < 0)) = false from zx]) (zzb (zys xj (zzs (zzp ?_))))))))))
 refine sq9 (zza 19 (zI z) (zyq 20 (x := .v (.int .u32 (IntKind.u32.wrap z))) (.v (.int .u32 (z % 4294967296))) (by rw [show (IntKind.u32.wrap z) = (z % 4294967296) from (IntKind.wrap_u32 _)]) (zza 21 (zI z) (zyq 22 (x := .v (.int .u64 (IntKind.u64.wrap z))) (.v (.int .u64 (z))) (by rw [show (IntKind.u64.wrap z) = z from (IntWalk.u64_in _ xq)]) (zyq 23 (x := .v (.int .u64 (Int.fdiv z (2 ^ 32)))) (.v (.int .u64 (z / 4294967296))) (by rw [show (Int.fdiv z (2 ^ 32)) = (z / 4294967296) from (by rw [Int.fdiv_eq_ediv_of_nonneg _ yz]; rfl)]) (zyq 24 (x := .v (.int .u32 (IntKind.u32.wrap (z / 4294967296)))) (.v (.int .u32 (z / 4294967296))) (by rw [show (IntKind.u32.wrap (z / 4294967296)) = (z / 4294967296) from (IntWalk.u32_in _ xq)]) (zxx 25 ⟨133, [.int .u32 (z % 4294967296), .int .u32 (z / 4294967296)]⟩ 2 (fun ab al ah ac => ?_))))))))
 refine zza 26 (.v (.agg #[.bool false, .slice (some ⟨ab, 0, none⟩) 2 2])) (zzg 27 154 _ fun _ _ ag ae => Post.mono (k_riTrim ae (nat_int ((two_data (N := z.natAbs) ac xq xq xq).ext ag)) xq) ?_)
 rintro _ aj ai ⟨aa, rfl, af⟩
 refine zzj ⟨30, aa.cs⟩ ty30 ?_
 refine zzb (zzo (ret0 [aa.v] ⟨zzr ty30 zze, trivial⟩ fun ak ad => ?_))
 refine ⟨aa, rfl, IntN.more (K := 2) ?_ xq⟩
 have e : z = Nt.sg false z.natAbs := by unfold Nt.sg; simp; omega
 rw [e]
 exact (af.ext ad)
set_option maxHeartbeats 2000000 in
theorem k_riDiv {u w : World} {i1 : IL} {zN : Int} {K : Nat} {i2 : IL} {zM : Int} {L : Nat} (d : Dat u w) (hi1 : IntV u i1 zN K) (hi2 : IntV u i2 zM L) (hM0 : zM ≠ 0) (hK : K ≤ 400000000) (hL : L ≤ 400000000) : Calls Tryz.prog 156 #[i1.v, i2.v] w (Post u w fun v u' => ∃ i j : IL, v = .tuple #[i.v, j.v, .int .i64 0] ∧ IntN u' i (zN / zM) (K + 1) ∧ IntN u' j (zN % zM) L) := by
 have hM : 0 < zM.natAbs := Int.natAbs_pos.2 hM0
 have hL1 : 1 ≤ L := by have h2 := hi2.size; have h3 := Nt.dl_mono (x := zM.natAbs) (y := 1) xq; rw [Nt.dl_one] at h3; omega
 refine zzm (args := [i1.v, i2.v]) Tryz.func156 rfl Tryz.ntmps156 (rs := [.cell 4 30, .cell 5 30, .tmp 6]) Tryz.results156 (le_b rfl) (le_b rfl) d ?_
 refine sq9 (zzk 2 ⟨30, i1.cs⟩ (zzk 3 ⟨30, i2.cs⟩ (zzk 4 ⟨30, [.bool false, .slice none 0 0]⟩ (zzk 5 ⟨30, [.bool false, .slice none 0 0]⟩ (zza 6 (zI 0) (zzb (zzd (zzz [0, 1, 0, 7, 15, 31] [(0, []), (2, []), (1, []), (3, []), (4, []), (5, [])] xj xj (zzi 10 (.v (i1.v)) ty30 zze (zzi 12 (.v (i2.v)) ty30 zze (zzg 11 154 _ fun _ _ aC aE => Post.mono (k_riTrim aE (hi1.ext aC) xq) ?_)))))))))))
 rintro _ u14 aT ⟨ab, rfl, aj⟩
 refine zzg 13 154 _ fun _ _ aw aZ => Post.mono (k_riTrim aZ (hi2.ext (aC.t (aT.t aw))) xq) ?_
 rintro _ u20 aH ⟨ac, rfl, ai⟩
 refine zzj ⟨30, ab.cs⟩ ty30 ?_
 refine zzj ⟨30, ac.cs⟩ ty30 ?_
 refine zzb (sq9 (zza 15 (.adr 2 1) (zzi 16 (.v (ab.m.v)) ty28 zzl (zza 17 (.adr 3 1) (zzi 18 (.v (ac.m.v)) ty28 zzl (zzg 19 204 _ fun _ _ al aF => Post.mono (k_rnDivMod aF ((int_mag aj).ext (aw.t (aH.t al))).raw ((int_mag ai).ext al).raw hM xq xq) ?_))))))
 rintro _ u28 aX ⟨ae, aa, rfl, am, ag⟩
 refine zza 14 (.v (.tuple #[ae.v, aa.v, .int .i64 0])) (zza 20 (.v (ae.v)) (zza 21 (.v (aa.v)) (zza 22 (zI 0) (zza 7 (.v (ae.v)) (zza 8 (.v (aa.v)) (zza 9 (zI 0) (zzb (zzd (sq9 (zza 23 (zI 0) (zza 24 (zB false) ?_)))))))))))
 refine zzb (zys xj (zzs (zzp ?_)))
 refine zzd (sq9 (zza 28 (.adr 2 0) (zzi 29 (zB ab.s) ty4 zzl ?_)))
 rcases Bool.eq_false_or_eq_true ab.s with hs31 | hs31
 ·refine zyq 30 (x := zB ab.s) (zB true) (by rw [hs31]) (zza 31 (.v (aa.v)) ?_ (hw := w1 2 true 30))
  refine zza 32 (zI aa.n) ?_ (hw := w1 2 true 30)
  refine zza 33 (zB (decide ((0 : Int) < (aa.n : Int)))) ?_ (hw := w1 2 true 30)
  refine zza 34 (zB (decide ((0 : Int) < (aa.n : Int)))) (zzc 52 [(2, .adr 2 0), (3, .adr 3 0), (4, .adr 4 0), (5, .adr 5 0), (7, .v (ae.v)), (8, .v (aa.v)), (34, zB (decide ((0 : Int) < (aa.n : Int))))] [(2, ⟨30, ab.cs⟩), (3, ⟨30, ac.cs⟩), (4, ⟨30, [.bool false, .slice none 0 0]⟩), (5, ⟨30, [.bool false, .slice none 0 0]⟩)] (zzu (b := decide ((0 : Int) < (aa.n : Int))) xj (fun ad => ?_) (fun ad => ?_)))
  ·have qhb32 := of_decide_eq_true ad
   refine zzz [0, 0, 3, 0, 8, 0, 63, 127, 255] [(0, []), (1, []), (3, []), (4, []), (5, []), (2, [36]), (6, []), (7, []), (8, [])] xj xj (zza 35 (.v (ae.v)) (sy_lit 36 ⟨133, [.int .u32 1]⟩ 1 ?_))
   refine zza 38 (.adr 3 1) (zzi 39 (.v (ac.m.v)) ty28 zzl (zza 40 (.v (aa.v)) (zyo 37 189 [.v (ae.v), .slc 36 0 1 1] [36] (.inr rfl) (pub_mk xw) (k := ?_))))
   intro aq w33 a0 ar aG aM
   have av : a0.heap[aq 36]? = some (.cells #[.int .u32 1] 133 (0, 0)) := aM 36 zz _ rfl
   obtain ⟨b34, af⟩ : ∃ b, aq 36 = b := ⟨_, rfl⟩
   rw [af] at av
   show Calls _ _ #[.slice ae.a ae.n ae.c, .slice (some ⟨aq 36, 0, none⟩) 1 1] _ _
   rw [af]
   have k40 := k_rnAdd aG (am.ext ar).raw (one_data av).raw xq xq
   with_reducible refine zPm k40 ?_
   rintro _ u38 aA ⟨ak, rfl, aQ⟩
   refine zzg 41 191 _ fun _ _ an aW => Post.mono (k_rnSub aW ((int_mag ai).ext (al.t (aX.t (ar.t (aA.t an))))).raw (ag.ext (ar.t (aA.t an))).raw xq xq) ?_
   rintro _ u44 aV ⟨ah, rfl, aN⟩
   refine zza 7 (.v (ak.v)) (zza 8 (.v (ah.v)) (zzb (sq9 (zza 42 (.adr 2 0) (zzi 43 (zB ab.s) ty4 zzl (zza 44 (.adr 3 0) (zzi 45 (zB ac.s) ty4 zzl (zza 46 (zB (!(ab.s == ac.s))) (zza 47 (.v (ak.v)) (zza 48 (.v (.agg #[.bool (!(ab.s == ac.s)), ak.v])) (zzg 49 154 _ fun _ _ aB aY => Post.mono (k_riTrim aY (IntV.same (s := !(ab.s == ac.s)) (aQ.ext (an.t (aV.t aB))).raw) xq) ?_)))))))))))
   rintro _ u50 aK ⟨ao, rfl, aO⟩
   refine zza 50 (.v (ah.v)) (zza 51 (.v (.agg #[.bool false, ah.v])) (zzj ⟨30, ao.cs⟩ ty30 ?_))
   refine zzj ⟨30, [.bool false, ah.v]⟩ ty30 ?_
   refine zza 6 (zI 0) (zzb (zzo (ret0 [ao.v, .agg #[.bool false, ah.v], .int .i64 0] ⟨zzr ty30 zze, zzr ty30 zze, zzq, trivial⟩ fun u53 aD => ?_)))
   have hs := aj.1
   have ht := ai.1
   have hr := ag.pos
   have qhs31 := hs31
   have qhb32 := ad
   have key := Nt.ediv_neg' zN zM rfl rfl hM (by rw [hs] at hs31; simpa using hs31) (by simp at ad; omega)
   have hK1 : 1 ≤ K := by have h2 := hi1.size; have h3 := (Nt.dl_pos (x := zN.natAbs)).2 (by rw [hs] at hs31; simp at hs31; omega); omega
   rw [← hs, ← ht] at key
   refine ⟨ao, (⟨false, ah⟩ : IL), rfl, IntN.more (K := (max K 1 + 1)) ?_ xq, IntN.more (K := L) ?_ xq⟩
   ·rw [key.1]; exact (aO.ext aD)
   rw [key.2]; exact (nat_intN (aN.ext (aB.t (aK.t aD))))
  have qhb32 := of_decide_eq_false ad
  refine zzs (zzp ?_)
  refine sq9 (zza 42 (.adr 2 0) (zzi 43 (zB ab.s) ty4 zzl (zza 44 (.adr 3 0) (zzi 45 (zB ac.s) ty4 zzl (zza 46 (zB (!(ab.s == ac.s))) (zza 47 (.v (ae.v)) (zza 48 (.v (.agg #[.bool (!(ab.s == ac.s)), ae.v])) (zzg 49 154 _ fun _ _ az aL => Post.mono (k_riTrim aL (IntV.same (s := !(ab.s == ac.s)) (am.ext az).raw) xq) ?_))))))))
  rintro _ u58 aI ⟨ap, rfl, aP⟩
  refine zza 50 (.v (aa.v)) (zza 51 (.v (.agg #[.bool false, aa.v])) (zzj ⟨30, ap.cs⟩ ty30 ?_))
  refine zzj ⟨30, [.bool false, aa.v]⟩ ty30 ?_
  refine zza 6 (zI 0) (zzb (zzo (ret0 [ap.v, .agg #[.bool false, aa.v], .int .i64 0] ⟨zzr ty30 zze, zzr ty30 zze, zzq, trivial⟩ fun u61 au => ?_)))
  have hs := aj.1
  have ht := ai.1
  have hr := ag.pos
  have qhs31 := hs31
  have qhb32 := ad
  have key := Nt.ediv_pos zN zM rfl rfl hM (fun hc => by simp at ad; omega)
  rw [← hs, ← ht] at key
  refine ⟨ap, (⟨false, aa⟩ : IL), rfl, IntN.more (K := K) ?_ xq, IntN.more (K := L) ?_ xq⟩
  ·rw [key.1]; exact (aP.ext au)
  rw [key.2]; exact (nat_intN (ag.ext (az.t (aI.t au))))
 refine zyq 30 (x := zB ab.s) (zB false) (by rw [hs31]) (zzn 31 (uw 2 true false 30) (zzn 32 (uw 2 true false 30) (zzn 33 (uw 2 true false 30) (zza 34 (zB false) (zzc 52 [(2, .adr 2 0), (3, .adr 3 0), (4, .adr 4 0), (5, .adr 5 0), (7, .v (ae.v)), (8, .v (aa.v)), (34, zB false)] [(2, ⟨30, ab.cs⟩), (3, ⟨30, ac.cs⟩), (4, ⟨30, [.bool false, .slice none 0 0]⟩), (5, ⟨30, [.bool false, .slice none 0 0]⟩)] (zys xj (zzs (zzp ?_))))))))
 refine sq9 (zza 42 (.adr 2 0) (zzi 43 (zB ab.s) ty4 zzl (zza 44 (.adr 3 0) (zzi 45 (zB ac.s) ty4 zzl (zza 46 (zB (!(ab.s == ac.s))) (zza 47 (.v (ae.v)) (zza 48 (.v (.agg #[.bool (!(ab.s == ac.s)), ae.v])) (zzg 49 154 _ fun _ _ ay aJ => Post.mono (k_riTrim aJ (IntV.same (s := !(ab.s == ac.s)) (am.ext ay).raw) xq) ?_))))))))
 rintro _ u66 aU ⟨i64, rfl, aR⟩
 refine zza 50 (.v (aa.v)) (zza 51 (.v (.agg #[.bool false, aa.v])) (zzj ⟨30, i64.cs⟩ ty30 ?_))
 refine zzj ⟨30, [.bool false, aa.v]⟩ ty30 ?_
 refine zza 6 (zI 0) (zzb (zzo (ret0 [i64.v, .agg #[.bool false, aa.v], .int .i64 0] ⟨zzr ty30 zze, zzr ty30 zze, zzq, trivial⟩ fun u69 ax => ?_)))
 have hs := aj.1
 have ht := ai.1
 have hr := ag.pos
 have qhs31 := hs31
 have key := Nt.ediv_pos zN zM rfl rfl hM (fun hc => by rw [hs] at hs31; simp at hs31; omega)
 rw [← hs, ← ht] at key
 refine ⟨i64, (⟨false, aa⟩ : IL), rfl, IntN.more (K := K) ?_ xq, IntN.more (K := L) ?_ xq⟩
 ·rw [key.1]; exact (aR.ext ax)
 rw [key.2]; exact (nat_intN (ag.ext (ay.t (aU.t ax))))
set_option maxHeartbeats 2000000 in
theorem k_reduce {u w : World} {i1 i2 : IL} {z y : Int} {K L : Nat} (d : Dat u w) (hi1 : IntV u i1 z K) (hi2 : IntV u i2 y L) (hK : K ≤ 400000000) (hL : L ≤ 400000000) : Calls Tryz.prog 84 #[i1.v, i2.v] w (Post u w fun v u' => ∃ r : RL, v = r.v ∧ RatN u' r ((z : Rat) / (y : Rat)) (max K L + 1)) := by
 refine zzm (args := [i1.v, i2.v]) Tryz.func84 rfl Tryz.ntmps84 (rs := [.cell 4 32]) Tryz.results84 (le_b rfl) (le_b rfl) d ?_
 refine sq9 (zzk 2 ⟨30, i1.cs⟩ (zzk 3 ⟨30, i2.cs⟩ (zzk 4 ⟨32, zw3⟩ (zzb (zzd (sq9 (zzi 12 (.v (i1.v)) ty30 zze (zzg 13 96 _ fun _ _ af aF => Post.mono (k_riSign aF (hi1.ext af) xq) ?_))))))))
 rintro _ u12 ag rfl
 refine zza 14 (zB ((Nt.cmpS z 0) == 0)) ?_
 rcases Bool.eq_false_or_eq_true ((Nt.cmpS z 0) == 0) with hs15 | hs15
 ·refine zyq 15 (x := zB ((Nt.cmpS z 0) == 0)) (zB true) (by rw [hs15]) ?_
  have az : z = 0 := Nt.cmp_eq0 hs15
  refine zzn 16 (uw 3 false true 15) (zzn 17 (uw 3 false true 15) (zzn 18 (uw 3 false true 15) (zza 19 (zB true) (zzb (zyr xj (sq9 (zxx 20 ⟨133, [.int .u32 1]⟩ 1 (fun ao u17 e18 aQ => ?_))))))))
  refine zza 21 (.v (.agg #[.bool false, .slice none 0 0, .slice (some ⟨ao, 0, none⟩) 1 1])) (zzj ⟨32, [.bool false, .slice none 0 0, .slice (some ⟨ao, 0, none⟩) 1 1]⟩ ty32 ?_)
  refine zzb (zzo (zzw (ret0 [.agg #[.bool false, .slice none 0 0, .slice (some ⟨ao, 0, none⟩) 1 1]] ⟨zzr ty32 zze, trivial⟩ fun u20 aL => ?_)))
  refine ⟨(⟨false, ⟨none, 0, 0⟩, (⟨some ⟨ao, 0, none⟩, 1, 1⟩ : Sl)⟩ : RL), rfl, ?_⟩
  have h9 : (z : Rat) / (y : Rat) = ((0 : Int) : Rat) := by rw [az]; simp [Rat.div_def]
  rw [h9]
  exact RatN.more (whole_rat (int_zero _ 1) ((one_data aQ).ext aL)) xq
 refine zyq 15 (x := zB ((Nt.cmpS z 0) == 0)) (zB false) (by rw [hs15]) ?_
 have az : z ≠ 0 := Nt.cmp_ne0 hs15
 refine zzi 16 (.v (i2.v)) ty30 zze ?_ (hw := w1 3 false 15)
 refine zzg 17 96 _ (fun _ _ ai aH => Post.mono (k_riSign aH (hi2.ext (af.t (ag.t ai))) xq) ?_) (hw := w1 3 false 15)
 rintro _ u23 am rfl
 refine zza 18 (zB ((Nt.cmpS y 0) == 0)) ?_ (hw := w1 3 false 15)
 refine zza 19 (zB ((Nt.cmpS y 0) == 0)) (zzb (zzu (b := (Nt.cmpS y 0) == 0) xj (fun ae => ?_) (fun ae => ?_)))
 ·have ah : y = 0 := Nt.cmp_eq0 ae
  refine sq9 (zxx 20 ⟨133, [.int .u32 1]⟩ 1 (fun ak u28 e29 aO => ?_))
  refine zza 21 (.v (.agg #[.bool false, .slice none 0 0, .slice (some ⟨ak, 0, none⟩) 1 1])) (zzj ⟨32, [.bool false, .slice none 0 0, .slice (some ⟨ak, 0, none⟩) 1 1]⟩ ty32 ?_)
  refine zzb (zzo (zzw (ret0 [.agg #[.bool false, .slice none 0 0, .slice (some ⟨ak, 0, none⟩) 1 1]] ⟨zzr ty32 zze, trivial⟩ fun u31 aM => ?_)))
  refine ⟨(⟨false, ⟨none, 0, 0⟩, (⟨some ⟨ak, 0, none⟩, 1, 1⟩ : Sl)⟩ : RL), rfl, ?_⟩
  have h9 : (z : Rat) / (y : Rat) = ((0 : Int) : Rat) := by rw [ah]; simp [Rat.div_def]
  rw [h9]
  exact RatN.more (whole_rat (int_zero _ 1) ((one_data aO).ext aM)) xq
 have ah : y ≠ 0 := Nt.cmp_ne0 ae
 have aw : ((Nat.gcd z.natAbs y.natAbs : Nat) : Int) ≠ 0 := by have h9 := Nat.gcd_pos_of_pos_right z.natAbs (Int.natAbs_pos.2 ah); omega
 refine zzs (zzp ?_)
 refine sq9 (zzi 22 (.v (i1.v)) ty30 zze (zzi 23 (.v (i2.v)) ty30 zze (zzg 24 155 _ fun _ _ ap aG => Post.mono (k_riGcd aG (hi1.ext (af.t (ag.t (ai.t (am.t ap))))) (hi2.ext (af.t (ag.t (ai.t (am.t ap))))) xq xq) ?_)))
 rintro _ u36 aB ⟨aq, rfl, av⟩
 refine zzk 5 ⟨30, [.bool false, .slice none 0 0]⟩ (zzj ⟨30, aq.cs⟩ ty30 ?_)
 refine zzb (sq9 (zzi 26 (.v (i1.v)) ty30 zze (zzi 27 (.v (aq.v)) ty30 zze (zzg 28 156 _ fun _ _ al aK => Post.mono (k_riDiv aK (hi1.ext (af.t (ag.t (ai.t (am.t (ap.t (aB.t al))))))) (av.ext al).raw aw xq xq) ?_))))
 rintro _ u44 aC ⟨ac, au, rfl, aA, h43⟩
 refine zza 25 (.v (.tuple #[ac.v, au.v, .int .i64 0])) (zza 29 (.v (ac.v)) (zza 30 (.v (au.v)) (zza 31 (zI 0) (zzk 6 ⟨30, [.bool false, .slice none 0 0]⟩ (zzk 7 ⟨30, [.bool false, .slice none 0 0]⟩ (zzj ⟨30, ac.cs⟩ ty30 ?_))))))
 refine zzj ⟨30, au.cs⟩ ty30 ?_
 refine zza 8 (zI 0) (zzb (sq9 (zzi 33 (.v (i2.v)) ty30 zze (zzi 34 (.v (aq.v)) ty30 zze (zzg 35 156 _ fun _ _ an aP => Post.mono (k_riDiv aP (hi2.ext (af.t (ag.t (ai.t (am.t (ap.t (aB.t (al.t (aC.t an))))))))) (av.ext (al.t (aC.t an))).raw aw xq xq) ?_)))))
 rintro _ u52 aE ⟨aa, ar, rfl, aj, h51⟩
 refine zza 32 (.v (.tuple #[aa.v, ar.v, .int .i64 0])) (zza 36 (.v (aa.v)) (zza 37 (.v (ar.v)) (zza 38 (zI 0) (zzk 9 ⟨30, [.bool false, .slice none 0 0]⟩ (zzk 10 ⟨30, [.bool false, .slice none 0 0]⟩ (zzj ⟨30, aa.cs⟩ ty30 ?_))))))
 refine zzj ⟨30, ar.cs⟩ ty30 ?_
 refine zza 11 (zI 0) (zzc 47 [(4, .adr 4 0), (6, .adr 6 0), (9, .adr 9 0)] [(4, ⟨32, zw3⟩), (6, ⟨30, ac.cs⟩), (9, ⟨30, aa.cs⟩)] (zzd (sq9 (zza 39 (.adr 9 0) (zzi 40 (zB aa.s) ty4 zzl (zzb (zzu (b := aa.s) xj (fun ab => ?_) (fun ab => ?_))))))))
 ·replace ab : aa.s = true := ab
  refine zzf (zzi 41 (.v (ac.v)) ty30 zze (zzg 42 81 _ fun _ _ aD aI => Post.mono (k_riNeg aI (aA.ext (an.t (aE.t aD))).raw xq) ?_))
  rintro _ u59 aN ⟨ad, rfl, aJ⟩
  refine zzj ⟨30, ad.cs⟩ ty30 ?_
  refine zzb (sq9 (zzi 43 (.v (ad.v)) ty30 zze (zza 44 (.adr 9 1) (zzi 45 (.v (aa.m.v)) ty28 zzl (zza 46 (.v (.agg #[.bool ad.s, ad.m.v, aa.m.v])) (zzj ⟨32, ad.cs ++ [aa.m.v]⟩ ty32 ?_))))))
  refine zzb (zzo (ret0 [.agg #[.bool ad.s, ad.m.v, aa.m.v]] ⟨zzr ty32 zze, trivial⟩ fun u62 ay => ?_))
  refine ⟨(⟨ad.s, ad.m, aa.m⟩ : RL), rfl, RatN.more (red_neg ah rfl (aJ.ext ay) aj ab ((int_mag aj).ext (aD.t (aN.t ay)))) xq⟩
 replace ab : aa.s = false := ab
 refine zzs (zzp ?_)
 refine sq9 (zzi 43 (.v (ac.v)) ty30 zze (zza 44 (.adr 9 1) (zzi 45 (.v (aa.m.v)) ty28 zzl (zza 46 (.v (.agg #[.bool ac.s, ac.m.v, aa.m.v])) (zzj ⟨32, ac.cs ++ [aa.m.v]⟩ ty32 ?_)))))
 refine zzb (zzo (ret0 [.agg #[.bool ac.s, ac.m.v, aa.m.v]] ⟨zzr ty32 zze, trivial⟩ fun u64 ax => ?_))
 refine ⟨(⟨ac.s, ac.m, aa.m⟩ : RL), rfl, RatN.more (red_pos ah rfl (aA.ext (an.t (aE.t ax))) aj ab ((int_mag aj).ext ax)) xq⟩
theorem k_parts {u w : World} {r : RL} {q : Rat} {K : Nat} (d : Dat u w) (h : RatV u r q K) (hKK : K ≤ 400000000) : Calls Tryz.prog 95 #[r.v] w (Post u w (PartV q K)) := by
 obtain ⟨⟨z, D, hi, hd, hq⟩, hK⟩ := h
 change IntV u ⟨r.s, r.m⟩ z K at hi
 change NatV u r.d D K at hd
 refine zzm (args := [r.v]) Tryz.func95 rfl Tryz.ntmps95 (rs := [.cell 2 30, .cell 3 30]) Tryz.results95 (le_b rfl) (le_b rfl) d ?_
 refine sq9 (zzk 1 ⟨32, r.cs⟩ (zzk 2 ⟨30, [.bool false, .slice none 0 0]⟩ (zzk 3 ⟨30, [.bool false, .slice none 0 0]⟩ (zzb (sq9 (zza 5 (.adr 1 2) (zzi 6 (.v (r.d.v)) ty28 zzl (zzg 7 157 _ fun _ _ af ai => Post.mono (k_rnTrim ai (hd.ext af) xq) ?_))))))))
 rintro _ u14 ah ⟨aa, rfl, ae⟩
 refine zza 8 (.v (.agg #[.bool false, aa.v])) (zzk 4 ⟨30, [.bool false, .slice none 0 0]⟩ (zzj ⟨30, [.bool false, aa.v]⟩ ty30 ?_))
 refine zzb (zzd (sq9 (zza 9 (.adr 4 1) (zzi 10 (.v (aa.v)) ty28 zzl (zza 11 (zI aa.n) (zza 12 (zB ((aa.n : Int) == 0)) (zzb (zzu (b := (aa.n : Int) == 0) xj (fun ab => ?_) (fun ab => ?_)))))))))
 ·have ac : (aa.n : Int) = 0 := by simpa using ab
  refine sq9 (zza 13 (.v (.agg #[.bool false, .slice none 0 0])) (zxx 14 ⟨133, [.int .u32 1]⟩ 1 (fun ad u19 e20 ak => ?_)))
  refine zza 15 (.v (.agg #[.bool false, .slice (some ⟨ad, 0, none⟩) 1 1])) (zzj ⟨30, [.bool false, .slice none 0 0]⟩ ty30 ?_)
  refine zzj ⟨30, [.bool false, .slice (some ⟨ad, 0, none⟩) 1 1]⟩ ty30 ?_
  refine zzb (zzo (zzw (ret0 [.agg #[.bool false, .slice none 0 0], .agg #[.bool false, .slice (some ⟨ad, 0, none⟩) 1 1]] ⟨zzr ty30 zze, zzr ty30 zze, trivial⟩ fun u22 aj => ?_)))
  have hp := ae.pos
  have hD : D = 0 := by simp at ab; omega
  exact ⟨⟨false, ⟨none, 0, 0⟩⟩, ⟨false, (⟨some ⟨ad, 0, none⟩, 1, 1⟩ : Sl)⟩, 0, 1, rfl, (int_zero _ K).raw, nat_intN (((one_data ak).ext aj).more hK), by omega, by rw [hq, hD]; simp, hK⟩
 have ac : ¬ ((aa.n : Int) = 0) := by simpa using ab
 refine zzs (zzp ?_)
 refine zzd (zzz [0, 1, 0, 3, 15] [(0, []), (1, []), (2, []), (3, [4]), (4, [])] xj xj (zza 16 (.adr 1 0) (zzi 17 (.v (.agg #[.bool r.s, r.m.v])) ty30 zze (zzi 18 (.v (.agg #[.bool false, aa.v])) ty30 zze (zzj ⟨30, [.bool r.s, r.m.v]⟩ ty30 ?_)))))
 refine zzj ⟨30, [.bool false, aa.v]⟩ ty30 ?_
 refine zzb (zzo (ret0 [.agg #[.bool r.s, r.m.v], .agg #[.bool false, aa.v]] ⟨zzr ty30 zze, zzr ty30 zze, trivial⟩ fun u24 ag => ?_))
 have hp := ae.pos
 exact ⟨⟨r.s, r.m⟩, ⟨false, aa⟩, z, D, rfl, (hi.ext (af.t (ah.t ag))), nat_intN (ae.ext ag), by simp at ab; omega, hq, hK⟩
theorem k_rqTrim {u w : World} {r1 : RL} {x : Rat} {K : Nat} (d : Dat u w) (hr1 : RatV u r1 x K) (hK : K ≤ 100000000) : Calls Tryz.prog 80 #[r1.v] w (Post u w fun v u' => ∃ r : RL, v = r.v ∧ RatN u' r x K) := by
 refine zzm (args := [r1.v]) Tryz.func80 rfl Tryz.ntmps80 (rs := [.cell 2 32]) Tryz.results80 (le_b rfl) (le_b rfl) d ?_
 refine sq9 (zzk 1 ⟨32, r1.cs⟩ (zzk 2 ⟨32, zw3⟩ (zzb (sq9 (zzi 6 (.v (r1.v)) ty32 zze (zzg 7 95 _ fun _ _ an ah => Post.mono (k_parts ah (hr1.ext an) xq) ?_))))))
 rintro _ u13 g14 ⟨ab, aa, z12, D12, rfl, af, ac, al, ad, aj⟩
 refine zza 5 (.v (.tuple #[ab.v, aa.v])) (zza 8 (.v (ab.v)) (zza 9 (.v (aa.v)) (zzk 3 ⟨30, [.bool false, .slice none 0 0]⟩ (zzk 4 ⟨30, [.bool false, .slice none 0 0]⟩ (zzj ⟨30, ab.cs⟩ ty30 ?_)))))
 refine zzj ⟨30, aa.cs⟩ ty30 ?_
 refine zzb (sq9 (zzi 10 (.v (ab.v)) ty30 zze (zzi 11 (.v (aa.v)) ty30 zze (zzg 12 84 _ fun _ _ ag ak => Post.mono (k_reduce ak (af.ext ag) (ac.ext ag).raw xq xq) ?_))))
 rintro _ u19 g20 ⟨ae, rfl, am⟩
 refine zzj ⟨32, ae.cs⟩ ty32 ?_
 refine zzb (zzo (ret0 [ae.v] ⟨zzr ty32 zze, trivial⟩ fun u22 ai => ?_))
 refine ⟨ae, rfl, RatN.fit (K := (max K K + 1)) ?_ (hr1.rs)⟩
 rw [ad, ← Nt.mk_div]
 exact (am.ext ai)
theorem k_rqSame {u w : World} {r1 r2 : RL} {x y : Rat} {K L : Nat} (d : Dat u w) (hr1 : RatN u r1 x K) (hr2 : RatN u r2 y L) : Calls Tryz.prog 16 #[r1.v, r2.v] w (Post u w fun v _ => v = .bool (decide (x = y))) := by
 refine zzm (args := [r1.v, r2.v]) Tryz.func16 rfl Tryz.ntmps16 (rs := [.tmp 4]) Tryz.results16 (le_b rfl) (le_b rfl) d ?_
 refine sq9 (zzk 2 ⟨32, r1.cs⟩ (zzk 3 ⟨32, r2.cs⟩ (zza 4 (zB false) (zzb (sq9 (zza 5 (.adr 2 0) (zzi 6 (.v (.agg #[.bool r1.s, r1.m.v])) ty30 zze (zza 7 (.adr 3 0) (zzi 8 (.v (.agg #[.bool r2.s, r2.m.v])) ty30 zze (zzg 9 74 _ fun _ _ aa ad => Post.mono (k_riSame ad ((RatN.num hr1).ext aa) ((RatN.num hr2).ext aa)) ?_))))))))))
 rintro _ u12 ac rfl
 rcases Bool.eq_false_or_eq_true (decide (x.num = y.num)) with hs15 | hs15
 ·refine zyq 10 (x := zB (decide (x.num = y.num))) (zB true) (by rw [hs15]) ?_
  have qhs15 := of_decide_eq_true hs15
  refine zza 11 (.adr 2 2) ?_ (hw := w1 5 true 10)
  refine zzi 12 (.v (r1.d.v)) ty28 zzl ?_ (hw := w1 5 true 10)
  refine zza 13 (.adr 3 2) ?_ (hw := w1 5 true 10)
  refine zzi 14 (.v (r2.d.v)) ty28 zzl ?_ (hw := w1 5 true 10)
  refine zzg 15 75 _ (fun _ _ ab ae => Post.mono (k_rnSame ae ((RatN.den hr1).ext (aa.t (ac.t ab))) ((RatN.den hr2).ext (aa.t (ac.t ab)))) ?_) (hw := w1 5 true 10)
  rintro _ u17 g18 rfl
  refine zza 16 (zB (decide (x.den = y.den))) (zza 4 (zB (decide (x.den = y.den))) (zzb (zzo (ret0 [.bool (decide (x.den = y.den))] ⟨zzq, trivial⟩ fun u20 e21 => ?_))))
  show _ = _
  rw [← Nt.same_q, hs15]
  rfl
 refine zyq 10 (x := zB (decide (x.num = y.num))) (zB false) (by rw [hs15]) ?_
 have qhs15 := of_decide_eq_false hs15
 refine zzn 11 (uw 5 true false 10) (zzn 12 (uw 5 true false 10) (zzn 13 (uw 5 true false 10) (zzn 14 (uw 5 true false 10) (zzn 15 (uw 5 true false 10) (zza 16 (zB false) (zza 4 (zB false) (zzb (zzo (ret0 [.bool false] ⟨zzq, trivial⟩ fun u22 e23 => ?_)))))))))
 show _ = _
 rw [← Nt.same_q, hs15]
 rfl
theorem k_rqOf {u w : World} {z : Int} (d : Dat u w) (h0 : -9223372036854775808 ≤ z) (h1 : z ≤ 9223372036854775807) : Calls Tryz.prog 30 #[.int .i64 z] w (Post u w fun v u' => ∃ r : RL, v = r.v ∧ RatN u' r (z : Rat) 2) := by
 refine zzm (args := [.int .i64 z]) Tryz.func30 rfl Tryz.ntmps30 (rs := [.cell 2 32]) Tryz.results30 (le_b rfl) (le_b rfl) d ?_
 refine sq9 (zzk 2 ⟨32, zw3⟩ (zzb (sq9 (zza 3 (zI z) (zzg 4 85 _ fun _ _ _ ae => Post.mono (k_riOf ae (z := z) xq xq) ?_)))))
 rintro _ u14 g15 ⟨aa, rfl, af⟩
 refine zxx 5 ⟨133, [.int .u32 1]⟩ 1 (fun ab u18 ag ad => ?_)
 refine zza 6 (.v (.agg #[.bool aa.s, aa.m.v, .slice (some ⟨ab, 0, none⟩) 1 1])) (zzj ⟨32, aa.cs ++ [.slice (some ⟨ab, 0, none⟩) 1 1]⟩ ty32 ?_)
 refine zzb (zzo (ret0 [.agg #[.bool aa.s, aa.m.v, .slice (some ⟨ab, 0, none⟩) 1 1]] ⟨zzr ty32 zze, trivial⟩ fun u21 ac => ?_))
 refine ⟨(⟨aa.s, aa.m, (⟨some ⟨ab, 0, none⟩, 1, 1⟩ : Sl)⟩ : RL), rfl, ?_⟩
 exact whole_rat (af.ext (ag.trans ac)) ((one_data ad).ext ac)
theorem k_rqFrac {u w : World} {a b : Int} (d : Dat u w) (ha0 : -9223372036854775808 ≤ a) (ha1 : a ≤ 9223372036854775807) (hb0 : -9223372036854775808 ≤ b) (hb1 : b ≤ 9223372036854775807) : Calls Tryz.prog 23 #[.int .i64 a, .int .i64 b] w (Post u w fun v u' => ∃ r : RL, v = r.v ∧ RatN u' r ((a : Rat) / (b : Rat)) 3) := by
 refine zzm (args := [.int .i64 a, .int .i64 b]) Tryz.func23 rfl Tryz.ntmps23 (rs := [.cell 4 32]) Tryz.results23 (le_b rfl) (le_b rfl) d ?_
 refine sq9 (zzk 4 ⟨32, zw3⟩ (zzb (sq9 (zza 5 (zI a) (zzg 6 85 _ fun _ _ _ ac => Post.mono (k_riOf ac (z := a) xq xq) ?_)))))
 rintro _ u14 g15 ⟨i12, rfl, ag⟩
 refine zza 7 (zI b) (zzg 8 85 _ fun _ _ ah aj => Post.mono (k_riOf aj (z := b) xq xq) ?_)
 rintro _ u20 ae ⟨i18, rfl, ak⟩
 refine zzg 9 84 _ fun _ _ ab ad => Post.mono (k_reduce ad (ag.ext (ah.t (ae.t ab))).raw (ak.ext ab).raw xq xq) ?_
 rintro _ u26 g27 ⟨aa, rfl, af⟩
 refine zzj ⟨32, aa.cs⟩ ty32 ?_
 refine zzb (zzo (ret0 [aa.v] ⟨zzr ty32 zze, trivial⟩ fun u29 ai => ?_))
 refine ⟨aa, rfl, RatN.more (K := (max 2 2 + 1)) ?_ xq⟩
 exact (af.ext ai)
theorem k_rqSign {u w : World} {r1 : RL} {x : Rat} {K : Nat} (d : Dat u w) (hr1 : RatV u r1 x K) (hK : K ≤ 100000000) : Calls Tryz.prog 32 #[r1.v] w (Post u w fun v u' => v = .int .i64 (Nt.sgQ x)) := by
 refine zzm (args := [r1.v]) Tryz.func32 rfl Tryz.ntmps32 (rs := [.tmp 2]) Tryz.results32 (le_b rfl) (le_b rfl) d ?_
 refine sq9 (zzk 1 ⟨32, r1.cs⟩ (zza 2 (zI 0) (zzb (sq9 (zzi 6 (.v (r1.v)) ty32 zze (zzg 7 95 _ fun _ _ ak ag => Post.mono (k_parts ag (hr1.ext ak) xq) ?_))))))
 rintro _ u13 g14 ⟨aa, ad, af, D12, rfl, ae, ah, ab, ac, ai⟩
 refine zza 5 (.v (.tuple #[aa.v, ad.v])) (zza 8 (.v (aa.v)) (zza 9 (.v (ad.v)) (zzk 3 ⟨30, [.bool false, .slice none 0 0]⟩ (zzk 4 ⟨30, [.bool false, .slice none 0 0]⟩ (zzj ⟨30, aa.cs⟩ ty30 ?_)))))
 refine zzj ⟨30, ad.cs⟩ ty30 ?_
 refine zzb (sq9 (zzi 10 (.v (aa.v)) ty30 zze (zzg 11 96 _ fun _ _ al aj => Post.mono (k_riSign aj (ae.ext al) xq) ?_)))
 rintro _ u17 g18 rfl
 refine zza 2 (zI (Nt.cmpS af 0)) (zzb (zzo (ret0 [.int .i64 (Nt.cmpS af 0)] ⟨zzq, trivial⟩ fun u20 e21 => ?_)))
 show _ = _
 rw [ac, ← Nt.sg_mk ab]
 rfl
theorem k_rqCompare {u w : World} {r1 : RL} {x : Rat} {K : Nat} {r2 : RL} {y : Rat} {L : Nat} (d : Dat u w) (hr1 : RatV u r1 x K) (hr2 : RatV u r2 y L) (hK : K ≤ 100000000) (hL : L ≤ 100000000) : Calls Tryz.prog 70 #[r1.v, r2.v] w (Post u w fun v u' => v = .int .i64 (Nt.cmpQ x y)) := by
 refine zzm (args := [r1.v, r2.v]) Tryz.func70 rfl Tryz.ntmps70 (rs := [.tmp 4]) Tryz.results70 (le_b rfl) (le_b rfl) d ?_
 refine sq9 (zzk 2 ⟨32, r1.cs⟩ (zzk 3 ⟨32, r2.cs⟩ (zza 4 (zI 0) (zzb (sq9 (zzi 10 (.v (r1.v)) ty32 zze (zzg 11 95 _ fun _ _ ax az => Post.mono (k_parts az (hr1.ext ax) xq) ?_)))))))
 rintro _ u13 aI ⟨ae, ad, aq, au, rfl, ao, ag, ak, al, aD⟩
 refine zza 9 (.v (.tuple #[ae.v, ad.v])) (zza 12 (.v (ae.v)) (zza 13 (.v (ad.v)) (zzk 5 ⟨30, [.bool false, .slice none 0 0]⟩ (zzk 6 ⟨30, [.bool false, .slice none 0 0]⟩ (zzj ⟨30, ae.cs⟩ ty30 ?_)))))
 refine zzj ⟨30, ad.cs⟩ ty30 ?_
 refine zzb (sq9 (zzi 15 (.v (r2.v)) ty32 zze (zzg 16 95 _ fun _ _ an aE => Post.mono (k_parts aE (hr2.ext (ax.t (aI.t an))) xq) ?_)))
 rintro _ u18 ap ⟨ac, aa, av, ar, rfl, aj, af, am, ai, aC⟩
 refine zza 14 (.v (.tuple #[ac.v, aa.v])) (zza 17 (.v (ac.v)) (zza 18 (.v (aa.v)) (zzk 7 ⟨30, [.bool false, .slice none 0 0]⟩ (zzk 8 ⟨30, [.bool false, .slice none 0 0]⟩ (zzj ⟨30, ac.cs⟩ ty30 ?_)))))
 refine zzj ⟨30, aa.cs⟩ ty30 ?_
 refine zzb (zzd (zzz [0, 0, 3, 0, 0, 31, 63, 127] [(0, []), (1, []), (3, []), (4, []), (2, []), (5, []), (6, []), (7, [])] xj xj (zzi 19 (.v (ae.v)) ty30 zze (zzi 20 (.v (aa.v)) ty30 zze (zzi 22 (.v (ac.v)) ty30 zze (zzi 23 (.v (ad.v)) ty30 zze (zzg 21 137 _ fun _ _ ab aJ => Post.mono (k_riMul aJ (ao.ext (an.t (ap.t ab))) (af.ext ab).raw xq xq) ?_)))))))
 rintro _ u24 aw ⟨i22, rfl, aF⟩
 refine zzg 24 137 _ fun _ _ ah aG => Post.mono (k_riMul aG (aj.ext (ab.t (aw.t ah))) (ag.ext (an.t (ap.t (ab.t (aw.t ah))))).raw xq xq) ?_
 rintro _ u30 aH ⟨i28, rfl, aA⟩
 refine zzg 25 150 _ fun _ _ ay aB => Post.mono (k_riCompare aB (aF.ext (ah.t (aH.t ay))).raw (aA.ext ay).raw xq xq) ?_
 rintro _ u34 g35 rfl
 refine zza 4 (zI (Nt.cmpS (aq * (ar : Int)) (av * (au : Int)))) (zzb (zzo (ret0 [.int .i64 (Nt.cmpS (aq * (ar : Int)) (av * (au : Int)))] ⟨zzq, trivial⟩ fun u37 e38 => ?_)))
 show _ = _
 rw [al, ai, ← Nt.cmp_mk ak am]
 rfl
theorem k_signed {u w : World} {s : Bool} {x : Sl} {N K : Nat} (d : Dat u w) (h : NatN u x N K) : Calls Tryz.prog 193 #[.bool s, x.v] w (Post u w fun v u' => ∃ i : IL, v = i.v ∧ IntN u' i (Nt.sg s N) K) := by
 refine zzm (args := [.bool s, x.v]) Tryz.func193 rfl Tryz.ntmps193 (rs := [.cell 4 30]) Tryz.results193 (le_b rfl) (le_b rfl) d ?_
 refine sq9 (zzk 4 ⟨30, [.bool false, .slice none 0 0]⟩ (zzb (sq9 (zza 5 (zB s) ?_))))
 rcases Bool.eq_false_or_eq_true s with hs11 | hs11
 ·refine zyq 6 (x := zB s) (zB true) (by rw [hs11]) (zza 7 (.v (x.v)) ?_ (hw := w1 1 true 6))
  refine zza 8 (zI x.n) ?_ (hw := w1 1 true 6)
  refine zza 9 (zB (decide ((0 : Int) < (x.n : Int)))) ?_ (hw := w1 1 true 6)
  refine zza 10 (zB (decide ((0 : Int) < (x.n : Int)))) (zza 11 (.v (x.v)) (zza 12 (.v (.agg #[.bool (decide ((0 : Int) < (x.n : Int))), x.v])) (zzj ⟨30, [.bool (decide ((0 : Int) < (x.n : Int))), x.v]⟩ ty30 ?_)))
  refine zzb (zzo (ret0 [.agg #[.bool (decide ((0 : Int) < (x.n : Int))), .slice x.a x.n x.c]] ⟨zzr ty30 zze, trivial⟩ fun u12 aa => ?_))
  rw [hs11]
  exact ⟨⟨_, x⟩, rfl, signed_int (s := true) (h.ext aa)⟩
 refine zyq 6 (x := zB s) (zB false) (by rw [hs11]) (zzn 7 (uw 1 true false 6) (zzn 8 (uw 1 true false 6) (zzn 9 (uw 1 true false 6) (zza 10 (zB false) (zza 11 (.v (x.v)) (zza 12 (.v (.agg #[.bool false, x.v])) (zzj ⟨30, [.bool false, x.v]⟩ ty30 ?_)))))))
 refine zzb (zzo (ret0 [.agg #[.bool false, .slice x.a x.n x.c]] ⟨zzr ty30 zze, trivial⟩ fun u14 ab => ?_))
 rw [hs11]
 exact ⟨⟨_, x⟩, rfl, signed_int (s := false) (h.ext ab)⟩
theorem k_intTrim {u w : World} {i1 : IL} {zN : Int} {K : Nat} (d : Dat u w) (hi1 : IntV u i1 zN K) (hK : K ≤ 500000000) : Calls Tryz.prog 200 #[i1.v] w (Post u w fun v u' => ∃ i : IL, v = i.v ∧ IntN u' i zN K) := by
 obtain ⟨N, hN, hzN⟩ := hi1
 refine zzm (args := [i1.v]) Tryz.func200 rfl Tryz.ntmps200 (rs := [.cell 2 30]) Tryz.results200 (le_b rfl) (le_b rfl) d ?_
 refine sq9 (zzk 1 ⟨30, i1.cs⟩ (zzk 2 ⟨30, [.bool false, .slice none 0 0]⟩ (zzb (zzd (zzz [0, 1, 0, 4, 12, 31, 63] [(0, []), (1, []), (2, []), (3, []), (4, []), (5, []), (6, [])] xj xj (zza 3 (.adr 1 0) (zzi 4 (zB i1.s) ty4 zzl (zza 5 (.adr 1 1) (zzi 6 (.v (i1.m.v)) ty28 zzl (zzg 7 194 _ fun _ _ ac ab => Post.mono (k_natTrim ab (hN.ext ac) xq) ?_))))))))))
 rintro _ u14 g15 ⟨x12, rfl, af⟩
 refine zzg 8 193 _ fun _ _ ag ad => Post.mono (k_signed ad (s := i1.s) (af.ext ag)) ?_
 rintro _ u20 g21 ⟨aa, rfl, ae⟩
 refine zzj ⟨30, aa.cs⟩ ty30 ?_
 refine zzb (zzo (ret0 [aa.v] ⟨zzr ty30 zze, trivial⟩ fun u23 ah => ?_))
 refine ⟨aa, rfl, IntN.more (K := K) ?_ xq⟩
 rw [hzN]
 exact (ae.ext ah)
theorem k_intMul {u w : World} {i1 : IL} {zN : Int} {K : Nat} {i2 : IL} {zM : Int} {L : Nat} (d : Dat u w) (hi1 : IntV u i1 zN K) (hi2 : IntV u i2 zM L) (hK : K ≤ 500000000) (hL : L ≤ 500000000) : Calls Tryz.prog 143 #[i1.v, i2.v] w (Post u w fun v u' => ∃ i : IL, v = i.v ∧ IntN u' i (zN * zM) (K + L)) := by
 obtain ⟨N, hN, hzN⟩ := hi1
 obtain ⟨M, hM, hzM⟩ := hi2
 refine zzm (args := [i1.v, i2.v]) Tryz.func143 rfl Tryz.ntmps143 (rs := [.cell 4 30]) Tryz.results143 (le_b rfl) (le_b rfl) d ?_
 refine sq9 (zzk 2 ⟨30, i1.cs⟩ (zzk 3 ⟨30, i2.cs⟩ (zzk 4 ⟨30, [.bool false, .slice none 0 0]⟩ (zzb (zzd (zzz [0, 1, 0, 4, 15, 0, 32, 0, 128, 480, 1023, 2047] [(0, []), (1, []), (2, []), (3, []), (4, []), (5, []), (6, []), (7, []), (8, []), (9, []), (10, []), (11, [])] xj xj (zza 5 (.adr 2 0) (zzi 6 (zB i1.s) ty4 zzl (zza 7 (.adr 3 0) (zzi 8 (zB i2.s) ty4 zzl (zza 9 (zB (!(i1.s == i2.s))) ?_)))))))))))
 refine zza 10 (.adr 2 1) (zzi 11 (.v (i1.m.v)) ty28 zzl (zza 12 (.adr 3 1) (zzi 13 (.v (i2.m.v)) ty28 zzl (zzg 14 167 _ fun _ _ ab ac => Post.mono (k_natMul ac (hN.ext ab) (hM.ext ab) xq xq) ?_))))
 rintro _ u14 g15 ⟨x12, rfl, af⟩
 refine zzg 15 193 _ fun _ _ ag ad => Post.mono (k_signed ad (s := !(i1.s == i2.s)) (af.ext ag)) ?_
 rintro _ u20 g21 ⟨aa, rfl, ae⟩
 refine zzj ⟨30, aa.cs⟩ ty30 ?_
 refine zzb (zzo (ret0 [aa.v] ⟨zzr ty30 zze, trivial⟩ fun u23 ah => ?_))
 refine ⟨aa, rfl, IntN.more (K := (K + L)) ?_ xq⟩
 rw [hzN, hzM, ← Nt.sg_mul]
 exact (ae.ext ah)
theorem k_intAdd {u w : World} {i1 : IL} {zN : Int} {K : Nat} {i2 : IL} {zM : Int} {L : Nat} (d : Dat u w) (hi1 : IntV u i1 zN K) (hi2 : IntV u i2 zM L) (hK : K ≤ 500000000) (hL : L ≤ 500000000) : Calls Tryz.prog 165 #[i1.v, i2.v] w (Post u w fun v u' => ∃ i : IL, v = i.v ∧ IntN u' i (zN + zM) (max K L + 1)) := by
 obtain ⟨N, hN, hzN⟩ := hi1
 obtain ⟨M, hM, hzM⟩ := hi2
 refine zzm (args := [i1.v, i2.v]) Tryz.func165 rfl Tryz.ntmps165 (rs := [.cell 4 30]) Tryz.results165 (le_b rfl) (le_b rfl) d ?_
 refine sq9 (zzk 2 ⟨30, i1.cs⟩ (zzk 3 ⟨30, i2.cs⟩ (zzk 4 ⟨30, [.bool false, .slice none 0 0]⟩ (zzb (zzd (sq9 (zza 5 (.adr 2 0) (zzi 6 (zB i1.s) ty4 zzl (zza 7 (.adr 3 0) (zzi 8 (zB i2.s) ty4 zzl (zza 9 (zB (i1.s == i2.s)) ?_)))))))))))
 refine zzb (zzu (b := i1.s == i2.s) xj (fun aa => ?_) (fun aa => ?_))
 ·refine zzd (zzz [0, 1, 0, 4, 0, 16, 60, 127, 255] [(0, []), (1, []), (2, []), (3, []), (4, []), (5, []), (6, []), (7, []), (8, [])] xj xj (zza 10 (.adr 2 0) (zzi 11 (zB i1.s) ty4 zzl (zza 12 (.adr 2 1) (zzi 13 (.v (i1.m.v)) ty28 zzl (zza 14 (.adr 3 1) (zzi 15 (.v (i2.m.v)) ty28 zzl (zzg 16 196 _ fun _ _ ah az => Post.mono (k_natAdd az (hN.ext ah) (hM.ext ah) xq xq) ?_))))))))
  rintro _ u15 g16 ⟨x13, rfl, ay⟩
  refine zzg 17 193 _ fun _ _ aE au => Post.mono (k_signed au (s := i1.s) (ay.ext aE)) ?_
  rintro _ u21 g22 ⟨ag, rfl, an⟩
  refine zzj ⟨30, ag.cs⟩ ty30 ?_
  refine zzb (zzo (zzw (ret0 [ag.v] ⟨zzr ty30 zze, trivial⟩ fun u24 aA => ?_)))
  refine ⟨ag, rfl, IntN.more (K := (max K L + 1)) ?_ xq⟩
  rw [hzN, hzM, ← Nt.sg_add1 N M aa]
  exact (an.ext aA)
 refine zzs (zzp ?_)
 refine zzd (sq9 (zza 18 (.adr 2 1) (zzi 19 (.v (i1.m.v)) ty28 zzl (zza 20 (.adr 3 1) (zzi 21 (.v (i2.m.v)) ty28 zzl (zzg 22 166 _ fun _ _ ac aq => Post.mono (k_natCompare aq (hN.ext ac) (hM.ext ac)) ?_))))))
 rintro _ u27 ad rfl
 refine zza 23 (zB ((Nt.cmpS N M) == (-1))) (zzb (zzu (b := (Nt.cmpS N M) == (-1)) xj (fun ab => ?_) (fun ab => ?_)))
 ·refine zzd (zzz [0, 1, 0, 4, 0, 16, 60, 127, 255] [(0, []), (1, []), (2, []), (3, []), (4, []), (5, []), (6, []), (7, []), (8, [])] xj xj (zza 24 (.adr 3 0) (zzi 25 (zB i2.s) ty4 zzl (zza 26 (.adr 3 1) (zzi 27 (.v (i2.m.v)) ty28 zzl (zza 28 (.adr 2 1) (zzi 29 (.v (i1.m.v)) ty28 zzl (zzg 30 197 _ fun _ _ aj ar => Post.mono (k_natSub ar (hM.ext (ac.t (ad.t aj))) (hN.ext (ac.t (ad.t aj))) xq xq) ?_))))))))
  rintro _ u34 g35 ⟨x32, rfl, ao⟩
  refine zzg 31 193 _ fun _ _ ax aD => Post.mono (k_signed aD (s := i2.s) (ao.ext ax)) ?_
  rintro _ u40 g41 ⟨af, rfl, ak⟩
  refine zzj ⟨30, af.cs⟩ ty30 ?_
  refine zzb (zzo (zzw (ret0 [af.v] ⟨zzr ty30 zze, trivial⟩ fun u43 ap => ?_)))
  refine ⟨af, rfl, IntN.more (K := L) ?_ xq⟩
  rw [hzN, hzM, ← Nt.sg_add2 N M aa ab]
  exact (ak.ext ap)
 refine zzs (zzp ?_)
 refine zzd (zzz [0, 1, 0, 4, 0, 16, 60, 127, 255] [(0, []), (1, []), (2, []), (3, []), (4, []), (5, []), (6, []), (7, []), (8, [])] xj xj (zza 32 (.adr 2 0) (zzi 33 (zB i1.s) ty4 zzl (zza 34 (.adr 2 1) (zzi 35 (.v (i1.m.v)) ty28 zzl (zza 36 (.adr 3 1) (zzi 37 (.v (i2.m.v)) ty28 zzl (zzg 38 197 _ fun _ _ ai aw => Post.mono (k_natSub aw (hN.ext (ac.t (ad.t ai))) (hM.ext (ac.t (ad.t ai))) xq xq) ?_))))))))
 rintro _ u48 g49 ⟨x46, rfl, aC⟩
 refine zzg 39 193 _ fun _ _ aB am => Post.mono (k_signed am (s := i1.s) (aC.ext aB)) ?_
 rintro _ u54 g55 ⟨ae, rfl, al⟩
 refine zzj ⟨30, ae.cs⟩ ty30 ?_
 refine zzb (zzo (ret0 [ae.v] ⟨zzr ty30 zze, trivial⟩ fun u57 av => ?_))
 refine ⟨ae, rfl, IntN.more (K := K) ?_ xq⟩
 rw [hzN, hzM, ← Nt.sg_add3 N M aa ab]
 exact (al.ext av)
theorem k_intSign {u w : World} {i1 : IL} {zN : Int} {K : Nat} (d : Dat u w) (hi1 : IntV u i1 zN K)  : Calls Tryz.prog 147 #[i1.v] w (Post u w fun v u' => v = .int .i64 (Nt.cmpS zN 0)) := by
 obtain ⟨N, hN, hzN⟩ := hi1
 refine zzm (args := [i1.v]) Tryz.func147 rfl Tryz.ntmps147 (rs := [.tmp 2]) Tryz.results147 (le_b rfl) (le_b rfl) d ?_
 refine sq9 (zzk 1 ⟨30, i1.cs⟩ (zza 2 (zI 0) (zzb (zzd (zzt (sq9 (zza 4 (.adr 1 1) (zzi 5 (.v (i1.m.v)) ty28 zzl (zzg 6 166 _ fun _ _ ad ac => Post.mono (k_natCompare ac (hN.ext ad) (nat_nil _ 1)) ?_)))))))))
 rintro _ u12 g13 rfl
 refine zza 7 (zB ((Nt.cmpS N 0) == 0)) (zza 3 (zB ((Nt.cmpS N 0) == 0)) (zzb (zzu (b := (Nt.cmpS N 0) == 0) xj (fun ab => ?_) (fun ab => ?_))))
 ·refine sq9 (zza 2 (zI 0) (zzb (zzo (zyu (zzw (ret0 [.int .i64 0] ⟨zzq, trivial⟩ fun u16 e17 => ?_))))))
  show _ = _
  rw [hzN, Nt.sg_cmp0, if_pos ab]
  rfl
 refine sq9 (zza 9 (.adr 1 0) (zzi 10 (zB i1.s) ty4 zzl (zza 8 (zB i1.s) (zzb (zzu (b := i1.s) xj (fun aa => ?_) (fun aa => ?_))))))
 ·replace aa : i1.s = true := aa
  refine sq9 (zza 2 (zI (-1)) (zzb (zzo (zyu (zzw (ret0 [.int .i64 (-1)] ⟨zzq, trivial⟩ fun u19 e20 => ?_))))))
  show _ = _
  rw [hzN, Nt.sg_cmp0, if_neg (ne_true_of_eq_false ab), if_pos aa]
  rfl
 replace aa : i1.s = false := aa
 refine zzs (zzp ?_)
 refine sq9 (zza 2 (zI 1) (zzb (zzo (ret0 [.int .i64 1] ⟨zzq, trivial⟩ fun u21 e22 => ?_))))
 show _ = _
 rw [hzN, Nt.sg_cmp0, if_neg (ne_true_of_eq_false ab), if_neg (ne_true_of_eq_false aa)]
 rfl
namespace Nt
theorem cmp_sg (s t : Bool) (N M : Nat) : cmpS (sg s N) (sg t M) = if decide (cmpS (sg s N) 0 < cmpS (sg t M) 0) = true then -1 else if decide (cmpS (sg t M) 0 < cmpS (sg s N) 0) = true then 1 else if (cmpS (sg s N) 0 == -1) = true then cmpS (M : Int) (N : Int) else cmpS (N : Int) (M : Int) := by
 rcases cmp_range (sg s N) 0 with ⟨e, h⟩ | ⟨e, h⟩ | ⟨e, h⟩ <;> rcases cmp_range (sg t M) 0 with ⟨e', h'⟩ | ⟨e', h'⟩ | ⟨e', h'⟩ <;> rw [e, e'] <;> simp
 ·unfold sg at *; cases s <;> cases t <;> simp at h h' ⊢ <;> unfold cmpS <;> (repeat' split) <;> first | rfl | omega
 ·exact cmp_lt xq
 ·exact cmp_lt xq
 ·exact cmp_gt xq
 ·rw [h, h']; unfold sg at *; cases s <;> cases t <;> simp at h h' <;> rw [h, h'] <;> rfl
 ·exact cmp_lt xq
 ·exact cmp_gt xq
 ·exact cmp_gt xq
 unfold sg at *; cases s <;> cases t <;> simp at h h' ⊢ <;> first | rfl | omega
end Nt
theorem k_intCompare {u w : World} {i1 : IL} {zN : Int} {K : Nat} {i2 : IL} {zM : Int} {L : Nat} (d : Dat u w) (hi1 : IntV u i1 zN K) (hi2 : IntV u i2 zM L)  : Calls Tryz.prog 146 #[i1.v, i2.v] w (Post u w fun v u' => v = .int .i64 (Nt.cmpS zN zM)) := by
 obtain ⟨N, hN, hzN⟩ := hi1
 obtain ⟨M, hM, hzM⟩ := hi2
 refine zzm (args := [i1.v, i2.v]) Tryz.func146 rfl Tryz.ntmps146 (rs := [.tmp 4]) Tryz.results146 (le_b rfl) (le_b rfl) d ?_
 refine sq9 (zzk 2 ⟨30, i1.cs⟩ (zzk 3 ⟨30, i2.cs⟩ (zza 4 (zI 0) (zzb (zzd (zzz [0, 1, 0, 7, 15, 31] [(0, []), (2, []), (1, []), (3, []), (4, []), (5, [])] xj xj (zzi 7 (.v (i1.v)) ty30 zze (zzi 9 (.v (i2.v)) ty30 zze (zzg 8 147 _ fun _ _ ad aj => Post.mono (k_intSign aj (IntV.same (s := i1.s) (hN.ext ad))) ?_)))))))))
 rintro _ u12 ae rfl
 refine zzg 10 147 _ fun _ _ af ak => Post.mono (k_intSign ak (IntV.same (s := i2.s) (hM.ext (ad.t (ae.t af))))) ?_
 rintro _ u16 ag rfl
 refine zza 5 (zI (Nt.cmpS (Nt.sg i1.s N) 0)) (zza 6 (zI (Nt.cmpS (Nt.sg i2.s M) 0)) (zzb (zzd (zzt (sq9 (zza 12 (zI (Nt.cmpS (Nt.sg i1.s N) 0)) (zza 13 (zI (Nt.cmpS (Nt.sg i2.s M) 0)) (zza 14 (zB (decide ((Nt.cmpS (Nt.sg i1.s N) 0) < (Nt.cmpS (Nt.sg i2.s M) 0)))) (zza 11 (zB (decide ((Nt.cmpS (Nt.sg i1.s N) 0) < (Nt.cmpS (Nt.sg i2.s M) 0)))) (zzb (zzu (b := decide ((Nt.cmpS (Nt.sg i1.s N) 0) < (Nt.cmpS (Nt.sg i2.s M) 0))) xj (fun aa => ?_) (fun aa => ?_))))))))))))
 ·have qhb19 := of_decide_eq_true aa
  refine sq9 (zza 4 (zI (-1)) (zzb (zzo (zyu (zzw (ret0 [.int .i64 (-1)] ⟨zzq, trivial⟩ fun u20 e21 => ?_))))))
  show _ = _
  rw [hzN, hzM, Nt.cmp_sg, if_pos aa]
  rfl
 have qhb19 := of_decide_eq_false aa
 refine sq9 (zza 16 (zI (Nt.cmpS (Nt.sg i1.s N) 0)) (zza 17 (zI (Nt.cmpS (Nt.sg i2.s M) 0)) (zza 18 (zB (decide ((Nt.cmpS (Nt.sg i2.s M) 0) < (Nt.cmpS (Nt.sg i1.s N) 0)))) (zza 15 (zB (decide ((Nt.cmpS (Nt.sg i2.s M) 0) < (Nt.cmpS (Nt.sg i1.s N) 0)))) (zzb (zzu (b := decide ((Nt.cmpS (Nt.sg i2.s M) 0) < (Nt.cmpS (Nt.sg i1.s N) 0))) xj (fun ab => ?_) (fun ab => ?_)))))))
 ·have qhb22 := of_decide_eq_true ab
  refine sq9 (zza 4 (zI 1) (zzb (zzo (zyu (zzw (ret0 [.int .i64 1] ⟨zzq, trivial⟩ fun u23 e24 => ?_))))))
  show _ = _
  rw [hzN, hzM, Nt.cmp_sg, if_neg (ne_true_of_eq_false aa), if_pos ab]
  rfl
 have qhb22 := of_decide_eq_false ab
 refine sq9 (zza 20 (zI (Nt.cmpS (Nt.sg i1.s N) 0)) (zza 21 (zB ((Nt.cmpS (Nt.sg i1.s N) 0) == (-1))) (zza 19 (zB ((Nt.cmpS (Nt.sg i1.s N) 0) == (-1))) (zzb (zzu (b := (Nt.cmpS (Nt.sg i1.s N) 0) == (-1)) xj (fun ac => ?_) (fun ac => ?_))))))
 ·refine sq9 (zza 22 (.adr 3 1) (zzi 23 (.v (i2.m.v)) ty28 zzl (zza 24 (.adr 2 1) (zzi 25 (.v (i1.m.v)) ty28 zzl (zzg 26 166 _ fun _ _ ah al => Post.mono (k_natCompare al (hM.ext (ad.t (ae.t (af.t (ag.t ah))))) (hN.ext (ad.t (ae.t (af.t (ag.t ah)))))) ?_)))))
  rintro _ u27 g28 rfl
  refine zza 4 (zI (Nt.cmpS M N)) (zzb (zzo (zyu (zzw (ret0 [.int .i64 (Nt.cmpS M N)] ⟨zzq, trivial⟩ fun u30 e31 => ?_)))))
  show _ = _
  rw [hzN, hzM, Nt.cmp_sg, if_neg (ne_true_of_eq_false aa), if_neg (ne_true_of_eq_false ab), if_pos ac]
  rfl
 refine zzs (zzp ?_)
 refine sq9 (zza 27 (.adr 2 1) (zzi 28 (.v (i1.m.v)) ty28 zzl (zza 29 (.adr 3 1) (zzi 30 (.v (i2.m.v)) ty28 zzl (zzg 31 166 _ fun _ _ ai am => Post.mono (k_natCompare am (hN.ext (ad.t (ae.t (af.t (ag.t ai))))) (hM.ext (ad.t (ae.t (af.t (ag.t ai)))))) ?_)))))
 rintro _ u33 g34 rfl
 refine zza 4 (zI (Nt.cmpS N M)) (zzb (zzo (ret0 [.int .i64 (Nt.cmpS N M)] ⟨zzq, trivial⟩ fun u36 e37 => ?_)))
 show _ = _
 rw [hzN, hzM, Nt.cmp_sg, if_neg (ne_true_of_eq_false aa), if_neg (ne_true_of_eq_false ab), if_neg (ne_true_of_eq_false ac)]
 rfl
theorem k_intOf {u w : World} {z : Int} (d : Dat u w) (h0 : -9223372036854775808 ≤ z) (h1 : z ≤ 9223372036854775807) : Calls Tryz.prog 140 #[.int .i64 z] w (Post u w fun v u' => ∃ i : IL, v = i.v ∧ IntN u' i z 2) := by
 by_cases hneg : z < 0
 ·refine zzm (args := [.int .i64 z]) Tryz.func140 rfl Tryz.ntmps140 (rs := [.cell 2 30]) Tryz.results140 (le_b rfl) (le_b rfl) d ?_
  refine sq9 (zzk 2 ⟨30, [.bool false, .slice none 0 0]⟩ (zzb (sq9 (zza 4 (zI z) (zyq 5 (x := .v (.int .u64 (IntKind.u64.wrap z))) (.v (.int .u64 (z + 18446744073709551616))) (by rw [show (IntKind.u64.wrap z) = (z + 18446744073709551616) from (by simp [IntKind.wrap, IntKind.bits, IntKind.signed]; omega)]) (zza 3 (.v (.int .u64 (z + 18446744073709551616))) (zzb (zzd (sq9 (zza 6 (zI z) (zyq 7 (x := zB (decide (z < 0))) (zB true) (by rw [show (decide (z < 0)) = true from zx]) ?_)))))))))))
  refine zzb (zyr xj (zzf (zza 8 (.v (.int .u64 (z + 18446744073709551616))) (zyq 9 (x := .v (.int .u64 (IntKind.u64.wrap (0 - (z + 18446744073709551616))))) (.v (.int .u64 (-z))) (by rw [show (IntKind.u64.wrap (0 - (z + 18446744073709551616))) = (-z) from (by simp [IntKind.wrap, IntKind.bits, IntKind.signed]; omega)]) (zza 3 (.v (.int .u64 (-z))) (zzb (sq9 (zza 10 (zI z) (zyq 11 (x := zB (decide (z < 0))) (zB true) (by rw [show (decide (z < 0)) = true from zx]) (zza 12 (.v (.int .u64 (-z))) (zyq 13 (x := .v (.int .u32 (IntKind.u32.wrap (-z)))) (.v (.int .u32 ((-z) % 4294967296))) (by rw [show (IntKind.u32.wrap (-z)) = ((-z) % 4294967296) from (IntKind.wrap_u32 _)]) ?_)))))))))))
  refine zza 14 (.v (.int .u64 (-z))) (zyq 15 (x := .v (.int .u64 (Int.fdiv (-z) (2 ^ 32)))) (.v (.int .u64 ((-z) / 4294967296))) (by rw [show (Int.fdiv (-z) (2 ^ 32)) = ((-z) / 4294967296) from (by rw [Int.fdiv_eq_ediv_of_nonneg _ yz]; rfl)]) (zyq 16 (x := .v (.int .u32 (IntKind.u32.wrap ((-z) / 4294967296)))) (.v (.int .u32 ((-z) / 4294967296))) (by rw [show (IntKind.u32.wrap ((-z) / 4294967296)) = ((-z) / 4294967296) from (IntWalk.u32_in _ xq)]) (zxx 17 ⟨133, [.int .u32 ((-z) % 4294967296), .int .u32 ((-z) / 4294967296)]⟩ 2 (fun aj ar al ag => ?_))))
  refine zzg 18 194 [.slice (some ⟨aj, 0, none⟩) 2 2] ?_
  intro w15 u15 ah ad
  have k20 := k_natTrim ad ((two_data (N := z.natAbs) ag xq xq xq).ext ah) xq
  with_reducible refine zPm k20 ?_
  rintro _ an am ⟨ak, rfl, ae⟩
  refine zzg 19 193 [.bool true, ak.v] ?_
  intro w21 u21 af ai
  have k26 := k_signed ai (s := true) (ae.ext af)
  with_reducible refine zPm k26 ?_
  rintro _ ao aq ⟨aa, rfl, ab⟩
  refine zzj ⟨30, aa.cs⟩ ty30 ?_
  refine zzb (zzo (ret0 [aa.v] ⟨zzr ty30 zze, trivial⟩ fun ap ac => ?_))
  refine ⟨aa, rfl, IntN.more (K := 2) ?_ xq⟩
  have e : z = Nt.sg true z.natAbs := by unfold Nt.sg; simp; omega
  rw [e]
  exact (ab.ext ac)
 refine zzm (args := [.int .i64 z]) Tryz.func140 rfl Tryz.ntmps140 (rs := [.cell 2 30]) Tryz.results140 (le_b rfl) (le_b rfl) d ?_
 refine sq9 (zzk 2 ⟨30, [.bool false, .slice none 0 0]⟩ (zzb (sq9 (zza 4 (zI z) (zyq 5 (x := .v (.int .u64 (IntKind.u64.wrap z))) (.v (.int .u64 (z))) (by rw [show (IntKind.u64.wrap z) = z from (by simp [IntKind.wrap, IntKind.bits, IntKind.signed]; omega)]) (zza 3 (.v (.int .u64 z)) (zzb (zzd (sq9 (zza 6 (zI z) (zyq 7 (x := zB (decide (z < 0))) (zB false) (by rw [show (decide (z < 0)) = false from zx]) ?_)))))))))))
 refine zzb (zys xj (zzs (zzp ?_)))
 refine sq9 (zza 10 (zI z) (zyq 11 (x := zB (decide (z < 0))) (zB false) (by rw [show (decide (z < 0)) = false from zx]) (zza 12 (.v (.int .u64 z)) (zyq 13 (x := .v (.int .u32 (IntKind.u32.wrap (z)))) (.v (.int .u32 ((z) % 4294967296))) (by rw [show (IntKind.u32.wrap (z)) = ((z) % 4294967296) from (IntKind.wrap_u32 _)]) (zza 14 (.v (.int .u64 z)) (zyq 15 (x := .v (.int .u64 (Int.fdiv (z) (2 ^ 32)))) (.v (.int .u64 ((z) / 4294967296))) (by rw [show (Int.fdiv (z) (2 ^ 32)) = ((z) / 4294967296) from (by rw [Int.fdiv_eq_ediv_of_nonneg _ yz]; rfl)]) (zyq 16 (x := .v (.int .u32 (IntKind.u32.wrap ((z) / 4294967296)))) (.v (.int .u32 ((z) / 4294967296))) (by rw [show (IntKind.u32.wrap ((z) / 4294967296)) = ((z) / 4294967296) from (IntWalk.u32_in _ xq)]) (zxx 17 ⟨133, [.int .u32 ((z) % 4294967296), .int .u32 ((z) / 4294967296)]⟩ 2 (fun aj ar al ag => ?_)))))))))
 refine zzg 18 194 _ fun _ _ ah ad => Post.mono (k_natTrim ad ((two_data (N := z.natAbs) ag xq xq xq).ext ah) xq) ?_
 rintro _ an am ⟨ak, rfl, ae⟩
 refine zzg 19 193 _ fun _ _ af ai => Post.mono (k_signed ai (s := false) (ae.ext af)) ?_
 rintro _ ao aq ⟨aa, rfl, ab⟩
 refine zzj ⟨30, aa.cs⟩ ty30 ?_
 refine zzb (zzo (ret0 [aa.v] ⟨zzr ty30 zze, trivial⟩ fun ap ac => ?_))
 refine ⟨aa, rfl, IntN.more (K := 2) ?_ xq⟩
 have e : z = Nt.sg false z.natAbs := by unfold Nt.sg; simp; omega
 rw [e]
 exact (ab.ext ac)
end Go.Proofs.YtgmkhhfbckjaeaaGreat

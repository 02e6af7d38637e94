/- Parts of the proof: contracts of functions, each walked once, and plain laws. -/
import Derived.Test.YtbolmkfphieogaaGreatDioB
import Derived.Laws.StructEq
import Derived.ChangeKeysEq
import Derived.Test.YtbolmkfphieogaaGreatProg
import Derived.KernelRfl
set_option linter.unusedVariables false
namespace Go.Proofs.YtbolmkfphieogaaGreat
open Go.RowKit
def setW (u : World) (b : Nat) (ob : Obj) : World := { u with heap := u.heap.setIfInBounds b ob }
structure ExtF (F : List Nat) (u u' : World) : Prop where
 size : u.heap.size ≤ u'.heap.size
 vis : ∀ (k : Nat) (o : Obj), k ∉ F → u.heap[k]? = some o → o ≠ hidO → u'.heap[k]? = some o
section
variable {P : Program} {ops : Array Oper} {w0 : Base} {u0 : World} {S T : St} {B : Tmp → Nat} {a : Act} {w w' u u' u'' v : World} {o : Oper} {p : List Tmp} {seq : Bool} {rest : List (Oper × List Tmp)} {K : St → World → Prop} {F : List Nat} {b : Nat} {ob : Obj}
theorem setW_size : (setW u b ob).heap.size = u.heap.size := by simp [setW]
theorem setW_ne {k : Nat} (h : k ≠ b) : (setW u b ob).heap[k]? = u.heap[k]? := by simp only [setW]; rw [Array.getElem?_setIfInBounds_ne (Ne.symm h)]
theorem setW_eq (h : b < u.heap.size) : (setW u b ob).heap[b]? = some ob := by simp [setW, h]
theorem ExtF.pre {u2 : World} (e : Ext u u') (h : ExtF F u' u2) : ExtF F u u2 := ⟨Nat.le_trans e.size h.size, fun k o hk ho hh => h.vis k o hk (e.vis k o ho hh) hh⟩
theorem ExtF.toB (h : ExtF [b] u u') : ExtB b u u' := ⟨h.size, fun k o hk ho hh => h.vis k o (by simpa using hk) ho hh⟩
theorem GrowF.extF (h : GrowF F u u') : ExtF F u u' := ⟨h.size, fun k o hk ho _ => (h.old k (zyz ho) hk).trans ho⟩
def MayB (w0 : Base) (u0 : World) (b : Nat) : Prop := u0.heap.size ≤ b ∨ b ∈ w0.free
theorem Rep.mut (h : Rep w0 u0 S B a w u) (hF : ∀ b ∈ F, MayB w0 u0 b ∧ ∃ ob, u.heap[b]? = some ob ∧ ob ≠ hidO) (hd : Dat u'' w') (hb : Bel ⟨w, none, F⟩ w') (hg : GrowF F u u'') : Rep w0 u0 S B a w' u'' := by
 have hno : ∀ b ∈ F, b < u0.heap.size → b ∈ w0.free := fun b hm hlt => by
  rcases (hF b hm).1 with h1 | h1
  ·omega
  exact h1
 refine ⟨h.regs, h.wf, h.defers, fun t V hV => ?_, h.inj, hd, h.base, ⟨Nat.le_trans h.grow.size hg.size, fun b hlt hf => ?_⟩, ?_⟩
 ·obtain ⟨v1, v2, v3⟩ := h.var t V hV
  have hn : B t ∉ F := fun hm => by
   obtain ⟨_, ob, e1, e2⟩ := hF _ hm
   rw [v2] at e1; injection e1 with e1; exact e2 e1.symm
  exact ⟨by rw [hb.block _ (zyz v1) (fun t e => by cases e) hn]; exact v1, by rw [hg.old _ (zyz v2) hn]; exact v2, v3⟩
 ·rw [hg.old b (Nat.lt_of_lt_of_le hlt h.grow.size) (fun hm => hf (hno b hm hlt))]
  exact h.grow.old b hlt hf
 have hbs := h.bel
 refine ⟨hb.os.trans hbs.os, hb.tape.trans hbs.tape, hb.output.trans hbs.output, Nat.le_trans hbs.size hb.size, fun k hk hl hf => ?_⟩
 rw [hb.block k (Nat.lt_of_lt_of_le hk hbs.size) (fun t e => by cases e) (fun hm => hf (hno k hm (by rw [h.base]; exact hk)))]
 exact hbs.block k hk hl hf
theorem setW_dat {cs : Array Value} {ty : TypeId} (h : Dat u w) (hw : w'.heap[b]? = some ob) (ho : OnlyB b w w') : Dat (setW u b ob) w' := by
 refine ⟨by rw [setW_size, h.size, ho.size], fun k o hk hh => ?_⟩
 by_cases e : k = b
 ·subst e
  have hlt := zyz hk
  rw [setW_size] at hlt
  rw [setW_eq hlt] at hk
  rw [hw]; exact hk
 rw [setW_ne e] at hk
 rw [ho.far k e]; exact h.vis k o hk hh
theorem setW_growF : GrowF [b] u (setW u b ob) := ⟨by rw [setW_size]; exact Nat.le_refl _, fun k hk hf => setW_ne (by simpa using hf)⟩
theorem onlyB_bel (h : OnlyB b w w') : Bel ⟨w, none, [b]⟩ w' := ⟨h.os, h.tape, h.output, Nat.le_of_eq h.size.symm, fun k hk _ hf => h.far k (by simpa using hf)⟩
theorem ev_any {z : Operand} {x : SV} (hr : RegOK S B a) (h : evO S z = some x) : a.eval z = x.conc B := ev_eval hr h
theorem sy_storeD {T : TypeId} {r : Tmp} {z : Operand} {v : Value} {agg : Bool} {n off : Nat} {cs : List Value} {ty : TypeId} (hub : u.heap[b]? = some (.cells cs.toArray ty (0, 0))) (hb : MayB w0 u0 b) (hT : TyIs P T agg n) (hl : off + n ≤ cs.length)
  (k : ∀ u1, u1.heap[b]? = some (.cells (setL cs off v.cells.toList).toArray ty (0, 0)) → ExtB b u u1 → sym P ops w0 u0 true rest S u1 K)
  (hw : Wants ops o S := by exact zwf xj) (hd : o.dst = none := by kernel_rfl) (hop : o.op = .store T (.tmp r) z := by rfl) (hr : S.reg r = some (.v (.pointer (some ⟨b, off, none⟩))) := by rfl) (hz : evO S z = some (.v v) := by rfl)
  (hn : v.cells.size = n := by kernel_rfl) (hone : v.cells.toList.all Value.oneCell' = true := by kernel_rfl) : sym P ops w0 u0 true ((o, p) :: rest) S u K := by
 refine .inr (.inr (.inl ⟨.inl rfl, fun B a w u' he hrep => ⟨hw B a hrep.regs, ?_⟩⟩))
 have hub' := he.cells hub
 have hwb := hrep.dat.ext.cells hub'
 obtain ⟨w', k1, k2, k3⟩ := run_storeCells (P := P) (b := b) (ty := ty) (base := off) v.cells.toList 0 w cs hwb zq (List.all_eq_true.1 hone)
 have hev : a.eval (.tmp r) = .pointer (some ⟨b, off, none⟩) := hrep.regs.eval hr
 have hez : a.eval z = v := ev_any hrep.regs hz
 have e2 : (Instr.storeAt T (.pointer (some ⟨b, off, none⟩)) v).run P w = .ok () w' := by
  have e3 : (Instr.storeAt T (.pointer (some ⟨b, off, none⟩)) v).run P w = (storeVar T ⟨b, off, none⟩ v).run P w := rfl
  rw [e3]
  unfold storeVar
  rw [run_bind_ok (hT w).2, if_neg (by simp [hn])]
  exact k1
 have e1 : (execOp a.eval o).run P w = .ok .skip w' := by
  have e4 : (execOp a.eval o).run P w = (do Instr.storeAt T (a.eval (.tmp r)) (a.eval z); pure Next.skip : Sem Next).run P w := by
   unfold execOp; rw [hop]
  rw [e4, hev, hez, run_bind_ok e2]
  rfl
 unfold Oper.wp
 rw [e1]
 simp only [Nat.add_zero] at k2
 have hlt := zyz hub'
 have hdat : Dat (setW u' b (.cells (setL cs off v.cells.toList).toArray ty (0, 0))) w' := setW_dat (cs := #[]) (ty := 0) hrep.dat k2 k3
 have hr2 := hrep.mut (F := [b]) (fun b' hm => by simp at hm; subst hm; exact ⟨hb, _, hub', by unfold hidO; intro e; cases e⟩) hdat (onlyB_bel k3) setW_growF
 refine ⟨S, B, _, _, ?_, (fun e => by cases e), (fun e => by cases e), Ext.refl _, k _ (setW_eq hlt) (ExtF.toB (.pre he setW_growF.extF))⟩
 rw [hd]; exact hr2
def grownW (u w' : World) (b g : Nat) (ob : Obj) : World := setW (setW (hide u w') b hidO) g ob
theorem grownW_size {g : Nat} (h : u.heap.size ≤ w'.heap.size) : (grownW u w' b g ob).heap.size = w'.heap.size := by unfold grownW; rw [setW_size, setW_size, zwp h]
theorem sy_dataN (d : Tmp) (V : Vr) (n : Nat) (k : ∀ b u1, Ext u u1 → u1.heap[b]? = some (.cells V.cs.toArray V.ty (0, 0)) → u0.heap.size ≤ b → u.heap.size ≤ b → sym P ops w0 u0 false rest (S.set d (.v (.slice (some ⟨b, 0, none⟩) n n))) u1 K) (hp : p ≠ [] := by exact List.cons_ne_nil _ _)
  (hw : Wants ops o S := by exact zwf xj) (hd : o.dst = some d := by kernel_rfl) (hk : opK o.op ≠ 2 := by decide) (hf : (freeB S d && knownB S o) = true := by kernel_rfl) (hv : S.var d = none := by kernel_rfl)
  (hrun : ∀ B w, (execOp (rho S B) o).run P w = .ok (.value (.slice (some ⟨w.heap.size, 0, none⟩) n n)) (w.alloc (.cells V.cs.toArray V.ty)) := by intro _ _; kernel_rfl) : sym P ops w0 u0 false ((o, p) :: rest) S u K := by
 simp only [Bool.and_eq_true] at hf
 refine .inr (.inr (.inr (.inr ⟨rfl, hp, hk, V, n, ⟨zxx hd hf.1, d, hd, hv, fun B a w hr => ⟨hw B a hr, ?_⟩⟩, fun b u1 e1 b1 b2 b3 => ?_⟩)))
 ·rw [exec_rho hr hf.2 hk]; exact hrun B w
 rw [hd]; exact k b u1 e1 b1 b2 b3
theorem sy_makeF (d : Tmp) {T E : TypeId} {x y : Operand} {z : Value} {size bytes : Nat} {k1 k2 : IntKind} {i j : Int} (n : Nat) (cs : List Value) (hT : P.underlying T = some (.slice E)) (hi : (P.info? E).map (fun i => (i.zero, i.size, i.bytes)) = some (some z, size, bytes)) (hn : i = n) (hn2 : j = n) (hb : bytes * n ≤ 281474976710656) (h63 : n ≤ maxLen) (hcs : (madeCells z.cells (n * size)).toList = cs)
  (k : ∀ b u1, Ext u u1 → u1.heap[b]? = some (.cells cs.toArray E (0, 0)) → u0.heap.size ≤ b → u.heap.size ≤ b → sym P ops w0 u0 true rest (S.set d (.v (.slice (some ⟨b, 0, none⟩) n n))) u1 K)
  (hw : Wants ops o S := by exact zwf xj) (hd : o.dst = some d := by kernel_rfl) (hop : o.op = .makeSlice T x y := by rfl) (hf : freeB S d = true := by kernel_rfl)
  (hx : evO S x = some (.v (.int k1 i)) := by rfl) (hy : evO S y = some (.v (.int k2 j)) := by rfl) : sym P ops w0 u0 true ((o, p) :: rest) S u K := by
 subst hcs hn hn2
 refine .inr (.inr (.inl ⟨.inl rfl, fun B a w u' he hrep => ⟨hw B a hrep.regs, ?_⟩⟩))
 have hrun := makes (P := P) (w := w) n hT hi hb h63 hop hx hy hrep.regs
 unfold Oper.wp
 rw [hrun]
 have hs : u'.heap.size = w.heap.size := hrep.dat.size
 have hv := (hrep.vis (.cells (madeCells z.cells (n * size)) E)).set (d := some d) (x := some (.v (.slice (some ⟨w.heap.size, 0, none⟩) n n))) (v := .slice (some ⟨w.heap.size, 0, none⟩) n n) (fun t e => by injection e with e; subst e; exact (zxx hd hf d hd).1) (fun z e => by injection e with e; rw [← e]; rfl) (fun z t e ht => by injection e with e; rw [← e] at ht; cases ht)
 refine ⟨S.set d (.v (.slice (some ⟨w.heap.size, 0, none⟩) n n)), B, u'.alloc (.cells (madeCells z.cells (n * size)) E), u'.alloc (.cells (madeCells z.cells (n * size)) E), ?_, (fun e => by cases e), (fun e => by cases e), Ext.refl _, k _ _ (he.trans (zxt _ _).ext) (by rw [← hs]; simpa using zxq u' (.cells (madeCells z.cells (n * size)) E)) (by rw [← hs]; exact hrep.grow.size) (by rw [← hs]; exact he.size)⟩
 rw [hd]
 exact hv
theorem zc_mem {z : Array Value} {n : Nat} {v : Value} (hz : 0 < z.size) (h : v ∈ (Builtin.zeroCells z n).toList) : v ∈ z.toList := by
 unfold Builtin.zeroCells at h
 rw [Array.toList_map, List.mem_map] at h
 obtain ⟨i, _, rfl⟩ := h
 have hi := Nat.mod_lt i hz
 rw [getElem!_pos z (i % z.size) hi]
 simp
theorem app_all {T E : TypeId} {z : Value} {size bytes n cap m c g c1 : Nat} {cs0 news : List Value} {ad : Addr} {ty : TypeId} {cs : Array Value} (q : Value → Prop) (hT : P.underlying T = some (.slice E)) (hi : (P.info? E).map (fun i => (i.zero, i.size, i.bytes)) = some (some z, size, bytes)) (hzs : z.cells.size = size) (hsz : 0 < size)
  (hub : w.heap[b]? = some (.cells cs0.toArray E (0, 0))) (hn : n ≤ cap) (hcl : cs0.length = cap * size) (hl : news.length = m * size) (hnews : ∀ j x, news[j]? = some x → w.cell? (ad.add j) = some x) (h1 : ∀ x ∈ news, x.oneCell' = true) (h63 : n + m ≤ maxLen) (hbytes : (n + m) * bytes ≤ 140737488355328)
  (hrun : (Builtin.append_ #[T, T] ty #[.slice (some ⟨b, 0, none⟩) n cap, .slice (some ad) m c]).run P w = .ok (.slice (some ⟨g, 0, none⟩) (n + m) c1) w') (hgv : w'.heap[g]? = some (.cells cs E (0, 0))) (q0 : ∀ v ∈ cs0, q v) (q1 : ∀ v ∈ news, q v) (q2 : ∀ v ∈ z.cells.toList, q v) : ∀ v ∈ cs.toList, q v := by
 obtain ⟨i, hi1, hz, hs, hby⟩ := info_parts hi
 have hle : n * size ≤ cs0.length := by rw [hcl]; exact Nat.mul_le_mul_right _ hn
 by_cases hroom : n + m ≤ cap
 ·have hr := run_append_room (P := P) w T ty E i hT hi1 b n cap cs0.toArray hub ad m c news (by rw [hs]; exact hl) hnews h1 hroom (by rw [hs, hl, List.size_toArray, hcl, ← Nat.add_mul]; exact Nat.mul_le_mul_right _ hroom)
  rw [hrun] at hr
  injection hr with hv hw2
  injection hv with ha _ _
  injection ha with ha
  injection ha with hg _ _
  subst hg
  subst hw2
  rw [setRow_heap w g cs0.toArray _ E _ hub] at hgv
  injection hgv with hgv
  injection hgv with hgv _ _
  intro v hv
  rw [← hgv] at hv
  simp only [List.mem_append] at hv
  rcases hv with (hv | hv) | hv
  ·exact q0 v (List.mem_of_mem_take hv)
  ·exact q1 v hv
  exact q0 v (List.mem_of_mem_drop hv)
 have hr := run_append_grow (P := P) w T ty E i z hT hi1 hz ⟨b, 0, none⟩ n cap (cs0.take (n * size)) (by rw [List.length_take, hs, Nat.min_eq_left hle]) (fun j x hx => by
   rw [addr_add, Nat.zero_add, cell_of_row w b j cs0.toArray E (0, 0) hub]
   rw [List.getElem?_take] at hx
   split at hx
   ·simpa using hx
   cases hx) ad m c news (by rw [hs]; exact hl) hnews xq (by unfold maxLen at h63; omega) (growslice_fits xq (by rw [hby]; exact hbytes))
 rw [hrun] at hr
 injection hr with hv hw2
 injection hv with ha _ _
 injection ha with ha
 injection ha with hg _ _
 subst hg
 subst hw2
 have h9 := zxq w.drew (.cells ((cs0.take (n * size)).toArray ++ news.toArray ++ Builtin.zeroCells z.cells (grownCap w (n + m) cap E - (n + m))) E)
 have h8 : w.drew.heap.size = w.heap.size := rfl
 rw [h8, hgv] at h9
 injection h9 with h9
 injection h9 with h9 _ _
 intro v hv
 rw [h9] at hv
 simp only [Array.toList_append, List.mem_append] at hv
 rcases hv with (hv | hv) | hv
 ·exact q0 v (List.mem_of_mem_take hv)
 ·exact q1 v hv
 exact q2 v (zc_mem xq hv)
theorem app_all0 {T E : TypeId} {z : Value} {size bytes m c g c1 : Nat} {news : List Value} {ad : Addr} {ty : TypeId} {cs : Array Value} (q : Value → Prop) (hT : P.underlying T = some (.slice E)) (hi : (P.info? E).map (fun i => (i.zero, i.size, i.bytes)) = some (some z, size, bytes)) (hzs : z.cells.size = size) (hsz : 0 < size)
  (hl : news.length = m * size) (hnews : ∀ j x, news[j]? = some x → w.cell? (ad.add j) = some x) (hm : 0 < m) (h63 : m ≤ maxLen) (hbytes : m * bytes ≤ 140737488355328)
  (hrun : (Builtin.append_ #[T, T] ty #[.slice none 0 0, .slice (some ad) m c]).run P w = .ok (.slice (some ⟨g, 0, none⟩) m c1) w') (hgv : w'.heap[g]? = some (.cells cs E (0, 0))) (q1 : ∀ v ∈ news, q v) (q2 : ∀ v ∈ z.cells.toList, q v) : ∀ v ∈ cs.toList, q v := by
 obtain ⟨i, hi1, hz, hs, hby⟩ := info_parts hi
 have hr := run_append_nil (P := P) w T ty E i z hT hi1 hz ad m c news (by rw [hs]; exact hl) hnews hm (by unfold maxLen at h63; omega) (by rw [hby]; omega)
 rw [hrun] at hr
 injection hr with hv hw2
 injection hv with ha _ _
 injection ha with ha
 injection ha with hg _ _
 subst hg
 subst hw2
 have h9 := zxq w.drew (.cells (news.toArray ++ Builtin.zeroCells z.cells (grownCap w m 0 E - m)) E)
 have h8 : w.drew.heap.size = w.heap.size := rfl
 rw [h8, hgv] at h9
 injection h9 with h9
 injection h9 with h9 _ _
 intro v hv
 rw [h9] at hv
 simp only [Array.toList_append, List.mem_append] at hv
 rcases hv with hv | hv
 ·exact q1 v hv
 exact q2 v (zc_mem xq hv)
theorem sy_appDp (d : Tmp) {T E : TypeId} {s x : Operand} {z : Value} {size bytes : Nat} {b2 off m c n cap : Nat} {cs0 : List Value} (news : List Value) (hT : P.underlying T = some (.slice E)) (hi : (P.info? E).map (fun i => (i.zero, i.size, i.bytes)) = some (some z, size, bytes)) (hzs : z.cells.size = size) (hsz : 0 < size)
  (hl : news.length = m * size) (hnews : ∀ j v, news[j]? = some v → u.cell? ⟨b2, off + j, none⟩ = some v) (h1 : ∀ v ∈ news, v.oneCell' = true) (hm : 0 < m) (h63 : n + m ≤ maxLen) (hbytes : (n + m) * bytes ≤ 140737488355328)
  (hn : n ≤ cap) (hcap : cap ≤ maxLen) (hcl : cs0.length = cap * size) (hub : u.heap[b]? = some (.cells cs0.toArray E (0, 0))) (hb : MayB w0 u0 b)
  (k : ∀ (g c1 : Nat) (cs : List Value) (u1 : World), n + m ≤ c1 → c1 ≤ maxLen → cs.length = c1 * size → cs.take ((n + m) * size) = cs0.take (n * size) ++ news → u1.heap[g]? = some (.cells cs.toArray E (0, 0)) → (g = b ∨ u.heap.size ≤ g) → ExtB b u u1 → (∀ q : Value → Prop, (∀ v ∈ cs0, q v) → (∀ v ∈ news, q v) → (∀ v ∈ z.cells.toList, q v) → ∀ v ∈ cs, q v) → sym P ops w0 u0 true rest (S.set d (.v (.slice (some ⟨g, 0, none⟩) (n + m) c1))) u1 K)
  (hw : Wants ops o S := by exact zwf xj) (hd : o.dst = some d := by kernel_rfl) (hop : o.op = .call { callee := .builtin .append, args := #[s, x], argTypes := #[T, T] } := by rfl) (hf : freeB S d = true := by kernel_rfl)
  (hs : evO S s = some (.v (.slice (some ⟨b, 0, none⟩) n cap)) := by rfl) (hx : evO S x = some (.v (.slice (some ⟨b2, off, none⟩) m c)) := by rfl) : sym P ops w0 u0 true ((o, p) :: rest) S u K := by
 refine .inr (.inr (.inl ⟨.inl rfl, fun B a w u' he hrep => ⟨hw B a hrep.regs, ?_⟩⟩))
 have hub' := he.cells hub
 have hwb := hrep.dat.ext.cells hub'
 have hltu := zyz hub'
 have hus : u'.heap.size = w.heap.size := hrep.dat.size
 obtain ⟨g, c1, cs, w', hrun, hgv, k1, k2, k3, k4, k5, k6⟩ := run_app (P := P) (u0 := { w with heap := #[] }) (w := w) (v := .slice (some ⟨b, 0, none⟩) n cap) (n := n) (xs := cs0.take (n * size)) (ad := ⟨b2, off, none⟩) (c := c) hT hi hzs hsz
  ⟨by rw [List.length_take, hcl]; exact Nat.min_eq_left (Nat.mul_le_mul_right _ hn), .inr ⟨b, cap, cs0.toArray, rfl, Nat.zero_le _, hwb, hn, hcap, by simpa using hcl, by simp⟩⟩ hl (fun j v hv => by rw [addr_add]; exact hrep.dat.ext.cell (he.cell (hnews j v hv))) h1 hm h63 hbytes (Nat.zero_le _) o.type
 unfold Oper.wp execOp
 simp only [hop, resolve, invoke, builtin, Sem.run_bind, Sem.run_pure, Result.andThen_ok, List.map_toArray, List.map_cons, List.map_nil, ev_of hrep.regs hs, ev_of hrep.regs hx, SV.conc, hrun]
 have aa : u'.heap.size ≤ w'.heap.size := by rw [hus]; exact k5.size
 have hgb : g = b ∨ g = w.heap.size := by
  rcases k6 with k6 | k6
  ·have : some b = some g := k6
   injection this with this; exact .inl this.symm
  exact .inr k6
 have hgw := zyz hgv
 have hcs : w'.heap[g]? = some (.cells cs.toList.toArray E (0, 0)) := by simpa using hgv
 have hkey : ∀ k, k < u'.heap.size → k ≠ b → w'.heap[k]? = w.heap[k]? := fun k hk hne => k5.block k xq (fun e => hne (by have : some k = some b := e; injection this))
 have hbw : b < w'.heap.size := by omega
 have hgl : g < (setW (hide u' w') b hidO).heap.size := by rw [setW_size, zwp aa]; exact hgw
 have hold : ∀ k, k < u'.heap.size → k ≠ b → (grownW u' w' b g (.cells cs.toList.toArray E (0, 0))).heap[k]? = u'.heap[k]? := fun k hk hne => by
  unfold grownW
  rw [setW_ne (by rcases hgb with h | h <;> omega), setW_ne hne, hide_old hk]
 have hdat : Dat (grownW u' w' b g (.cells cs.toList.toArray E (0, 0))) w' := by
  refine ⟨grownW_size aa, fun k ob hk hh => ?_⟩
  by_cases e : k = g
  ·subst e
   unfold grownW at hk
   rw [setW_eq hgl] at hk
   rw [hcs]; exact hk
  unfold grownW at hk
  rw [setW_ne e] at hk
  by_cases e2 : k = b
  ·subst e2
   rw [setW_eq (by rw [zwp aa]; exact hbw)] at hk
   injection hk with hk; exact absurd hk.symm hh
  rw [setW_ne e2] at hk
  rcases Nat.lt_or_ge k u'.heap.size with hlt | hge
  ·rw [hide_old hlt] at hk
   rw [hkey k hlt e2]; exact hrep.dat.vis k ob hk hh
  have := zyz hk
  rw [zwp aa] at this
  rw [hide_new hge this] at hk
  injection hk with hk; exact absurd hk.symm hh
 have hgr : GrowF [b] u' (grownW u' w' b g (.cells cs.toList.toArray E (0, 0))) := ⟨by rw [grownW_size aa]; exact aa, fun k hk hf => hold k hk (by simpa using hf)⟩
 have hr1 := hrep.mut (F := [b]) (fun b' hm => by simp at hm; subst hm; exact ⟨hb, _, hub', by unfold hidO; intro e; cases e⟩) hdat ⟨k5.os, k5.tape, k5.output, k5.size, fun k hk _ hf => hkey k (by rw [hus]; exact hk) (by simpa using hf)⟩ hgr
 have hr2 := hr1.set (d := o.dst) (x := some (.v (.slice (some ⟨g, 0, none⟩) (n + m) c1))) (v := .slice (some ⟨g, 0, none⟩) (n + m) c1) (fun s hs => (zxx hd hf s hs).1) (fun z e => by injection e with e; rw [← e]; rfl) (fun z t e ht => by injection e with e; rw [← e] at ht; cases ht)
 show ∃ S' B' u'' u2, Rep w0 u0 S' B' (a.put o.dst _) w' u'' ∧ _
 refine ⟨_, B, _, _, hr2, (fun e => by cases e), (fun e => by cases e), Ext.refl _, ?_⟩
 rw [hd]
 exact k g c1 cs.toList _ k1 k2 k3 k4 (by unfold grownW; rw [setW_eq hgl]) (by have := he.size; omega) (ExtF.toB (.pre he hgr.extF)) (fun q q0 q1 q2 => app_all q hT hi hzs hsz hwb hn hcl hl (fun j v hv => by rw [addr_add]; exact hrep.dat.ext.cell (he.cell (hnews j v hv))) h1 h63 hbytes hrun hgv q0 q1 q2)
theorem sy_appD0p (d : Tmp) {T E : TypeId} {s x : Operand} {z : Value} {size bytes : Nat} {b2 off m c : Nat} (news : List Value) (hT : P.underlying T = some (.slice E)) (hi : (P.info? E).map (fun i => (i.zero, i.size, i.bytes)) = some (some z, size, bytes)) (hzs : z.cells.size = size) (hsz : 0 < size)
  (hl : news.length = m * size) (hnews : ∀ j v, news[j]? = some v → u.cell? ⟨b2, off + j, none⟩ = some v) (h1 : ∀ v ∈ news, v.oneCell' = true) (hm : 0 < m) (h63 : m ≤ maxLen) (hbytes : m * bytes ≤ 140737488355328)
  (k : ∀ (g c1 : Nat) (cs : List Value) (u1 : World), m ≤ c1 → c1 ≤ maxLen → cs.length = c1 * size → cs.take (m * size) = news → u1.heap[g]? = some (.cells cs.toArray E (0, 0)) → u.heap.size ≤ g → u0.heap.size ≤ g → Ext u u1 → (∀ q : Value → Prop, (∀ v ∈ news, q v) → (∀ v ∈ z.cells.toList, q v) → ∀ v ∈ cs, q v) → sym P ops w0 u0 true rest (S.set d (.v (.slice (some ⟨g, 0, none⟩) m c1))) u1 K)
  (hw : Wants ops o S := by exact zwf xj) (hd : o.dst = some d := by kernel_rfl) (hop : o.op = .call { callee := .builtin .append, args := #[s, x], argTypes := #[T, T] } := by rfl) (hf : freeB S d = true := by kernel_rfl)
  (hs : evO S s = some (.v (.slice none 0 0)) := by rfl) (hx : evO S x = some (.v (.slice (some ⟨b2, off, none⟩) m c)) := by rfl) : sym P ops w0 u0 true ((o, p) :: rest) S u K := by
 refine .inr (.inr (.inl ⟨.inl rfl, fun B a w u' he hrep => ⟨hw B a hrep.regs, ?_⟩⟩))
 have hus : u'.heap.size = w.heap.size := hrep.dat.size
 obtain ⟨g, c1, cs, w', hrun, hgv, k1, k2, k3, k4, k5, k6⟩ := run_app (P := P) (u0 := { w with heap := #[] }) (w := w) (v := .slice none 0 0) (n := 0) (xs := []) (ad := ⟨b2, off, none⟩) (c := c) hT hi hzs hsz
  ⟨by simp, .inl ⟨rfl, rfl⟩⟩ hl (fun j v hv => by rw [addr_add]; exact hrep.dat.ext.cell (he.cell (hnews j v hv))) h1 hm (by rw [Nat.zero_add]; exact h63) (by rw [Nat.zero_add]; exact hbytes) (Nat.zero_le _) o.type
 rw [Nat.zero_add] at hrun k1 k4
 unfold Oper.wp execOp
 simp only [hop, resolve, invoke, builtin, Sem.run_bind, Sem.run_pure, Result.andThen_ok, List.map_toArray, List.map_cons, List.map_nil, ev_of hrep.regs hs, ev_of hrep.regs hx, SV.conc, hrun]
 have aa : u'.heap.size ≤ w'.heap.size := by rw [hus]; exact k5.size
 have hge : g = w.heap.size := by
  rcases k6 with k6 | k6
  ·cases k6
  exact k6
 have hgw := zyz hgv
 have hcs : w'.heap[g]? = some (.cells cs.toList.toArray E (0, 0)) := by simpa using hgv
 have hkey : ∀ k, k < u'.heap.size → w'.heap[k]? = w.heap[k]? := fun k hk => k5.block k xq (fun e => by cases e)
 have hgl : g < (hide u' w').heap.size := by rw [zwp aa]; exact hgw
 have hold : ∀ k, k < u'.heap.size → (setW (hide u' w') g (.cells cs.toList.toArray E (0, 0))).heap[k]? = u'.heap[k]? := fun k hk => by
  rw [setW_ne xq, hide_old hk]
 have hdat : Dat (setW (hide u' w') g (.cells cs.toList.toArray E (0, 0))) w' := by
  refine ⟨by rw [setW_size, zwp aa], fun k ob hk hh => ?_⟩
  by_cases e : k = g
  ·subst e
   rw [setW_eq hgl] at hk
   rw [hcs]; exact hk
  rw [setW_ne e] at hk
  rcases Nat.lt_or_ge k u'.heap.size with hlt | hge
  ·rw [hide_old hlt] at hk
   rw [hkey k hlt]; exact hrep.dat.vis k ob hk hh
  have := zyz hk
  rw [zwp aa] at this
  rw [hide_new hge this] at hk
  injection hk with hk; exact absurd hk.symm hh
 have hgr : GrowF [] u' (setW (hide u' w') g (.cells cs.toList.toArray E (0, 0))) := ⟨by rw [setW_size, zwp aa]; exact aa, fun k hk _ => hold k hk⟩
 have hr1 := hrep.mut (F := []) (fun b' hm => by cases hm) hdat ⟨k5.os, k5.tape, k5.output, k5.size, fun k hk _ _ => hkey k (by rw [hus]; exact hk)⟩ hgr
 have hr2 := hr1.set (d := o.dst) (x := some (.v (.slice (some ⟨g, 0, none⟩) m c1))) (v := .slice (some ⟨g, 0, none⟩) m c1) (fun s hs => (zxx hd hf s hs).1) (fun z e => by injection e with e; rw [← e]; rfl) (fun z t e ht => by injection e with e; rw [← e] at ht; cases ht)
 show ∃ S' B' u'' u2, Rep w0 u0 S' B' (a.put o.dst _) w' u'' ∧ _
 refine ⟨_, B, _, _, hr2, (fun e => by cases e), (fun e => by cases e), Ext.refl _, ?_⟩
 rw [hd]
 have hs1 := he.size
 have hs2 := hrep.grow.size
 exact k g c1 cs.toList _ k1 k2 k3 (by simpa using k4) (setW_eq hgl) xq xq (he.trans hgr.nil.ext) (fun q q1 q2 => app_all0 q hT hi hzs hsz hl (fun j v hv => by rw [addr_add]; exact hrep.dat.ext.cell (he.cell (hnews j v hv))) hm h63 hbytes hrun hgv q1 q2)
theorem Left.step {M : List Nat} {pre post : List (Nat × List Tmp)} {y : Nat × List Tmp} {listed : Array Bool} (hL : Left ops M (pre ++ y :: post) listed) (hro : ∀ j, (M.getD y.1 0).testBit j = true → j ∉ (pre ++ y :: post).map (·.1)) : Left ops M (pre ++ post) (listed.setIfInBounds y.1 true) := by
 have hsub : (pre ++ post).Sublist (pre ++ y :: post) := List.Sublist.append_left (List.sublist_cons_self _ _) _
 have hyn : y.1 ∉ (pre ++ post).map (·.1) := by
  have := hL.nodup
  rw [List.map_append, List.map_cons] at this
  have h2 := List.nodup_append.1 this
  have h3 := (List.nodup_cons.1 h2.2.1).1
  intro hm
  rw [List.map_append] at hm
  rcases List.mem_append.1 hm with hm | hm
  ·exact h2.2.2 y.1 hm y.1 (List.mem_cons_self ..) rfl
  exact h3 hm
 have hmem : ∀ j, j ≠ y.1 → (j ∈ (pre ++ post).map (·.1) ↔ j ∈ (pre ++ y :: post).map (·.1)) := fun j hj => by simp [hj]
 refine ⟨hL.nodup.sublist (hsub.map _), hL.pair.sublist hsub, by simp [hL.size], fun j hj => ?_, fun x hx => hL.lt x (hsub.mem hx), fun x hx => hL.mask x (hsub.mem hx), fun j hj hjn x hx => ?_⟩
 ·by_cases e : j = y.1
  ·subst e
   constructor
   ·intro h
    simp [hL.size, hj] at h
   intro h; exact absurd h hyn
  rw [getD_set_ne true (Ne.symm e), hmem j e]
  exact hL.mem j hj
 intro hmx
 by_cases e : j = y.1
 ·subst e; exact hro x hx ((hsub.map _).mem hmx)
 exact hL.closed j hj (fun h => hjn ((hmem j e).2 h)) x hx ((hsub.map _).mem hmx)
def chainB (M : List Nat) : List (Nat × List Tmp) → Bool
 | [] => true
 | x :: l => l.all (fun y => (M.getD y.1 0).testBit x.1) && chainB M l
theorem any_chain {M : List Nat} {Q : Exit → Act → World → Prop} : ∀ (T : List (Nat × List Tmp)) (listed : Array Bool) (a : Act) (w : World), Left ops M T listed → chainB M T = true →
  wpList P ops Q (T.map fun x => ops.getD x.1 default) a w → wpAny P .any ops Q T.length listed a w := by
 intro T
 induction T with
 | nil =>
  intro listed a w hL _ h
  refine ⟨?_, h⟩
  cases e : Region.ready .any ops listed with
  | nil => rfl
  | cons i l =>
   have := (hL.ready_mem (i := i) (by rw [e]; exact List.mem_cons_self ..)).2.1
   simp at this
 | cons y T ih =>
  intro listed a w hL hc h
  simp only [chainB, Bool.and_eq_true] at hc
  refine ⟨fun e => ?_, fun i hi => ?_⟩
  ·have := hL.head_ready
   rw [e] at this
   cases this
  obtain ⟨hlt, hm, hout⟩ := hL.ready_mem hi
  obtain ⟨x, hx, rfl⟩ := List.mem_map.1 hm
  have hro := reach_out hL hx hout
  have hxy : x = y := by
   rcases List.mem_cons.1 hx with rfl | hx'
   ·rfl
   exact absurd (List.mem_map.2 ⟨y, List.mem_cons_self .., rfl⟩) (hro y.1 (List.all_eq_true.1 hc.1 x hx'))
  subst hxy
  have hL' : Left ops M T (listed.setIfInBounds x.1 true) := by
   have := Left.step (pre := []) (post := T) hL hro
   exact this
  have key : ops[x.1]? = some (opAt ops x).1 := get_op hlt
  simp only [wpOp, key]
  simp only [List.map_cons] at h
  unfold wpList at h
  have h : if Region.wanted (opAt ops x).1 (yielded ops a.tmps) = true then (opAt ops x).1.wp P a w (wpList P ops Q (T.map fun x => ops.getD x.1 default)) Q ∨ ((opAt ops x).1.asks P a w ∧ LetsOut Q) else wpList P ops Q (T.map fun x => ops.getD x.1 default) (a.put (opAt ops x).1.dst undef) w := h
  split
  ·rename_i hw
   rw [if_pos hw] at h
   exact h.imp (Oper.wp_mono fun a w h => ih _ a w hL' hc.2 h) id
  rename_i hw
  rw [if_neg hw] at h
  exact ih _ _ w hL' hc.2 h
theorem any_symT {M : List Nat} {T : List (Nat × List Tmp)} {Q : Exit → Act → World → Prop} (hK : Mono K) (hc : chainB M T = true) (hQ : ∀ S u, K S u → ∀ B a w, Rep w0 u0 S B a w u → wpList P ops Q (T.map fun x => ops.getD x.1 default) a w) :
  ∀ (fuel : Nat) (L : List (Nat × List Tmp)) (listed : Array Bool) (S : St) (B : Tmp → Nat) (a : Act) (w u : World), L.length = fuel → Left ops M (L ++ T) listed → (∀ x ∈ L, ∀ y ∈ T, (M.getD y.1 0).testBit x.1 = true) → Rep w0 u0 S B a w u →
   sym P ops w0 u0 false (L.map (opAt ops)) S u K → wpAny P .any ops Q (fuel + T.length) listed a w := by
 intro fuel
 induction fuel with
 | zero =>
  intro L listed S B a w u hl hL _ hr hs
  obtain rfl := List.length_eq_zero_iff.1 hl
  rw [Nat.zero_add]
  exact any_chain T listed a w hL hc (hQ S u hs B a w hr)
 | succ fuel ih =>
  intro L listed S B a w u hl hL hT hr hs
  rw [Nat.succ_add]
  refine ⟨fun e => ?_, fun i hi => ?_⟩
  ·cases L with
   | nil => cases hl
   | cons x L =>
    have := Left.head_ready (L := L ++ T) hL
    rw [e] at this
    cases this
  obtain ⟨hlt, hm, hout⟩ := hL.ready_mem hi
  obtain ⟨y, hy, rfl⟩ := List.mem_map.1 hm
  have hro := reach_out hL hy hout
  have hyL : y ∈ L := by
   rcases List.mem_append.1 hy with h | h
   ·exact h
   cases L with
   | nil => cases hl
   | cons x L => exact absurd (by simp) (hro x.1 (hT x (List.mem_cons_self ..) y h))
  obtain ⟨pre, post, rfl⟩ := List.append_of_mem hyL
  have hsw : ∀ x ∈ pre.map (opAt ops), swapOk ops x (opAt ops y) = true := by
   intro x hx
   obtain ⟨x', hx', rfl⟩ := List.mem_map.1 hx
   have hp := hL.pair
   rw [List.append_assoc, List.cons_append] at hp
   have := (List.pairwise_append.1 hp).2.2 x' hx' y (List.mem_cons_self ..)
   simp only [pairOk, Bool.and_eq_true, Bool.or_eq_true] at this
   rcases this.1 with h1 | h1
   ·exact absurd (List.mem_map.2 ⟨x', by simp [hx'], rfl⟩) (hro x'.1 h1)
   exact h1
  rw [List.map_append, List.map_cons] at hs
  have hone := bubble hK (pre.map (opAt ops)) S u hr.wf hsw hs
  have hsound := one_sound (Q := Q) (zwc hK) hone (Ext.refl _) hr
  have hL' : Left ops M ((pre ++ post) ++ T) (listed.setIfInBounds y.1 true) := by
   have e1 : (pre ++ y :: post) ++ T = pre ++ y :: (post ++ T) := by simp
   rw [e1] at hL hro
   have := Left.step hL hro
   rw [List.append_assoc]; exact this
  have hfin : ∀ a' w', (∃ S' B' u'', Rep w0 u0 S' B' a' w' u'' ∧ (false = false → Ext u u'') ∧ sym P ops w0 u0 false (pre.map (opAt ops) ++ post.map (opAt ops)) S' u'' K) → wpAny P .any ops Q (fuel + T.length) (listed.setIfInBounds y.1 true) a' w' := by
   rintro a' w' ⟨S', B', u'', g1, _, g3⟩
   refine ih (pre ++ post) _ S' B' a' w' u'' (by simp at hl ⊢; omega) hL' (fun x hx => hT x (by simp at hx ⊢; rcases hx with h | h <;> simp [h])) g1 ?_
   rw [List.map_append]; exact g3
  have key : ops[y.1]? = some (opAt ops y).1 := get_op hlt
  simp only [wpOp, key]
  split
  ·rename_i hw
   rw [if_pos hw] at hsound
   exact .inl (Oper.wp_mono hfin hsound)
  rename_i hw
  rw [if_neg hw] at hsound
  exact hfin _ _ hsound
def tailB (M : List Nat) (L T : List (Nat × List Tmp)) : Bool := L.all (fun x => T.all fun y => (M.getD y.1 0).testBit x.1) && chainB M T
theorem sw_anyC {id : Nat} {Q : MP} (M : List Nat) (q T : List (Nat × List Tmp)) (hm : P.follows .mixedOrders = true) (hok : regOk ops M (q ++ T) = true) (ht : tailB M q T = true)
  (h : sym P ops w0 u0 false (q.map (opAt ops)) S u (fun S' u' => sym P ops w0 u0 true (T.map fun x => (ops.getD x.1 default, [])) S' u' (Q.f .normal))) : SW P w0 u0 (.region id ops true) S u Q := by
 intro B a w u' e hr
 simp only [regOk, Bool.and_eq_true, beq_iff_eq, List.all_eq_true] at hok
 obtain ⟨⟨⟨⟨h1, h2⟩, h5⟩, h3⟩, h4⟩ := hok
 simp only [tailB, Bool.and_eq_true, List.all_eq_true] at ht
 have hnd := nodupB_spec h2
 have hall : ∀ i, i < ops.size → i ∈ (q ++ T).map (·.1) := fun i hi => List.contains_iff_mem.1 (h5 i (by simpa using hi))
 have hK : Mono (fun S' u' => sym P ops w0 u0 true (T.map fun x => (ops.getD x.1 default, ([] : List Tmp))) S' u' (Q.f .normal)) := zwc (Q.mono _)
 have hs : ops.size = q.length + T.length := by rw [← h1, List.length_append]
 refine wp_region_any hm ?_
 rw [hs]
 have hlist : Left ops M (q ++ T) (Array.replicate (q.length + T.length) false) := by
  rw [← hs]
  refine ⟨hnd, pairsOk_spec h4, by simp, fun i hi => ?_, fun x hx => ?_, fun x hx => (h3 x hx).2, fun j hj hjn => absurd (hall j hj) hjn⟩
  ·simp only [Array.getD_eq_getD_getElem?]
   rw [Array.getElem?_eq_getElem (by simpa using hi)]
   simp only [Array.getElem_replicate, Option.getD_some, true_iff]
   exact hall i hi
  obtain ⟨⟨g1, g2⟩, g3⟩ := h3 x hx
  refine ⟨by simpa using g1, fun e he hb => ?_⟩
  simp only [Bool.not_eq_true', List.any_eq_false] at g2
  have := g2 e (by simpa using he)
  simp [hb] at this
  exact this
 refine any_symT hK ht.2 (fun S u'' h B a w hr => ?_) q.length q _ S B a _ u' rfl hlist (fun x hx y hy => ht.1 x hx y hy) hr.drew (zwc hK _ _ _ e h)
 have := sl_key (Q := fun e a' w' => ∃ S' B' u'', Rep w0 u0 S' B' a' w' u'' ∧ Q.f e S' u'') (K := Q.f .normal) (Q.mono _) [] (fun S u h B a w hr => by exact ⟨S, B, u, hr, h⟩) (T.map fun x => ops.getD x.1 default) S B a w u'' hr (by rw [List.map_map]; exact h)
 rw [List.append_nil] at this
 exact this
end
structure PL where
 o : Int
 g : Int
 h : Int
def PL.cs (p : PL) : List Value := [.int .i64 p.o, .int .i64 p.g, .int .i64 p.h]
@[reducible] def PL.v (p : PL) : Value := .agg #[.int .i64 p.o, .int .i64 p.g, .int .i64 p.h]
section
variable {u u' w w' : World} {L M : List PL} {p : PL} {n i c b off K : Nat} {x y : Sl}
theorem ints_data {cs : List Value} {t : TypeId} {l : List Int} (h : u.heap[b]? = some (.cells cs.toArray t (0, 0))) (hc : cs.take n = l.map (Value.int .i64)) (hl : cs.length = c) (hn : n ≤ c) (hm : c ≤ maxLen) : SlR .i64 u (some ⟨b, 0, none⟩) n c l := by
 have hlen : l.length = n := by have h9 := congrArg List.length hc; simp at h9; omega
 refine ⟨hlen, hn, hm, fun hp => ⟨b, 0, rfl, zyz h, fun i hi => ?_⟩⟩
 rw [Nat.zero_add, cells_at h]
 have h9 : (cs.take n)[i]? = (l.map (Value.int .i64))[i]? := by rw [hc]
 rw [List.getElem?_take_of_lt hi, List.getElem?_map, List.getElem?_eq_getElem (by omega : i < l.length)] at h9
 simp
 rw [h9, List.getElem?_eq_getElem (by omega : i < l.length)]
 rfl
end
section
variable {P : Program} {ops : Array Oper} {w0 : Base} {u0 : World} {S : St} {u u' w : World} {o : Oper} {p : List Tmp} {seq : Bool} {rest : List (Oper × List Tmp)} {K : St → World → Prop}
theorem sy_conv (d : Tmp) {src dst : TypeId} {x : Operand} {k0 k : IntKind} {n : Int} (v : Int) (hT : ∀ w, (convert src dst (.int k0 n)).run P w = .ok (.int k (k.wrap n)) w) (hv : k.wrap n = v) (kk : sym P ops w0 u0 seq rest (S.set d (.v (.int k v))) u K) (hw : Wants ops o S := by exact zwf xj) (hd : o.dst = some d := by kernel_rfl) (hop : o.op = .convert src dst x := by rfl) (hf : freeB S d = true := by kernel_rfl)
  (hx : evO S x = some (.v (.int k0 n)) := by rfl) : sym P ops w0 u0 seq ((o, p) :: rest) S u K := by
 subst hv
 refine .inl ⟨by rw [hop]; exact (by decide : (0 : Nat) ≠ 2), .set (.v (.int k (k.wrap n))), ⟨zxx hd hf, .inl ⟨(fun t ht => by cases ht), fun B a w u' hr he hdt => ⟨hw B a hr, ?_⟩⟩⟩, ?_⟩
 ·have e1 : (execOp a.eval o).run P w = (do pure (Next.value (← convert src dst (a.eval x))) : Sem Next).run P w := by unfold execOp; rw [hop]
  rw [e1, ev_eval hr hx]
  exact run_val (hT w)
 show sym P ops w0 u0 seq rest (S.put o.dst (some _)) u K
 rw [hd]; exact kk
end
section
variable {u u' : World} {A : Option Addr} {n c i : Nat} {l : List Int} {k : IntKind}
theorem ints_at (h : SlR k u A n c l) (hi : i < n) : ∃ b o, A = some ⟨b, o, none⟩ ∧ u.cell? ⟨b, o + i * 1, none⟩ = some (.int k (l.getD i 0)) := by
 obtain ⟨h1, h2, h3, h4⟩ := h
 obtain ⟨b, o, e, _, hc⟩ := h4 xq
 exact ⟨b, o, e, by rw [Nat.mul_one]; exact hc i hi⟩
theorem ints_bd {lo hi : Int} (h : ∀ z ∈ l, lo ≤ z ∧ z ≤ hi) (h0 : lo ≤ 0 ∧ 0 ≤ hi) (i : Nat) : lo ≤ l.getD i 0 ∧ l.getD i 0 ≤ hi := by
 rw [List.getD_eq_getElem?_getD]
 cases e : l[i]? with
 | none => exact h0
 | some z => exact h z (List.mem_of_getElem? e)
end
structure WL where
 b : Int
 f : Int
 r : Int
 o : Int
@[reducible] def WL.v (w : WL) : Value := .agg #[.int .i64 w.b, .int .i64 w.f, .int .i64 w.r, .int .i64 w.o]
def WL.cs (w : WL) : List Value := [.int .i64 w.b, .int .i64 w.f, .int .i64 w.r, .int .i64 w.o]
def WdOK (w : WL) : Prop := 4 ≤ w.b ∧ w.b ≤ 24 ∧ 0 ≤ w.f ∧ w.f < w.b ∧ 1 ≤ w.r ∧ w.r ≤ 3 ∧ 1 ≤ w.o ∧ w.o ≤ 2
namespace Nt
def p2i (n : Int) : Int := 2 ^ n.toNat
theorem zxo (n : Int) : 0 < p2i n := Int.pow_pos xw
theorem zwd {a b : Int} (h : a ≤ b) : p2i a ≤ p2i b := by
 unfold p2i
 have h1 : 2 ^ a.toNat ≤ 2 ^ b.toNat := Nat.pow_le_pow_right xw xq
 have h2 : ((2 ^ a.toNat : Nat) : Int) ≤ ((2 ^ b.toNat : Nat) : Int) := Int.ofNat_le.2 h1
 simpa using h2
theorem p2i_24 {n : Int} (h : n ≤ 24) : p2i n ≤ 16777216 := zwd (b := 24) h
end Nt
section
variable {P : Program} {w0 : Base} {u0 u w : World} {S : St} {ops : Array Oper} {o : Oper} {p : List Tmp} {seq : Bool} {rest : List (Oper × List Tmp)} {K : St → World → Prop}
theorem run_shl {T : TypeId} {k yk : IntKind} {n s : Int} {x y : Operand} (h0 : 0 ≤ s) (h1 : s ≤ k.bits) : (do eqGuard .shl T x y (.int k n) (.int yk s); binOp .shl T (.int k n) (.int yk s) : Sem Value).run P w = .ok (.int k (k.wrap (n * 2 ^ s.toNat))) w := by
 simp [eqGuard, binOp, shift_shl k yk n s h0 h1, go_sem]
theorem sy_shl (d : Tmp) {T T2 : TypeId} {x y : Operand} {k yk : IntKind} {n s : Int} (v : Int) (h0 : 0 ≤ s) (h1 : s ≤ k.bits) (hv : k.wrap (n * 2 ^ s.toNat) = v) (kk : sym P ops w0 u0 seq rest (S.set d (.v (.int k v))) u K) (hw : Wants ops o S := by exact zwf xj) (hd : o.dst = some d := by kernel_rfl) (hop : o.op = .binOp .shl T x y T2 := by rfl) (hf : freeB S d = true := by kernel_rfl)
  (hx : evO S x = some (.v (.int k n)) := by rfl) (hy : evO S y = some (.v (.int yk s)) := by rfl) : sym P ops w0 u0 seq ((o, p) :: rest) S u K := by
 subst hv
 refine .inl ⟨by rw [hop]; exact (by decide : (0 : Nat) ≠ 2), .set (.v (.int k (k.wrap (n * 2 ^ s.toNat)))), ⟨zxx hd hf, .inl ⟨(fun t ht => by cases ht), fun B a w u' hr he hdt => ⟨hw B a hr, ?_⟩⟩⟩, ?_⟩
 ·have e1 : (execOp a.eval o).run P w = (do pure (Next.value (← (do eqGuard .shl T x y (a.eval x) (a.eval y); binOp .shl T (a.eval x) (a.eval y)))) : Sem Next).run P w := by unfold execOp; rw [hop]
  rw [e1, ev_eval hr hx, ev_eval hr hy]
  exact run_val (run_shl h0 h1)
 show sym P ops w0 u0 seq rest (S.put o.dst (some _)) u K
 rw [hd]; exact kk
end
theorem shl_one {n : Int} (h0 : 0 ≤ n) (h1 : n ≤ 24) : IntKind.i64.wrap (1 * 2 ^ n.toNat) = Nt.p2i n := by
 have h2 := Nt.p2i_24 h1
 have h3 := Nt.zxo n
 rw [Int.one_mul]
 exact IntWalk.i64_in _ (by unfold Nt.p2i at *; omega)
theorem mod_pos9 (m : Int) (hm : 1 ≤ m) (n : Int) (h : decide (Int.tmod n m < 0) = false) : Int.tmod n m = n % m := by
 have h := of_decide_eq_false h
 rcases Int.lt_or_le n 0 with hn | hn
 ·have e := Int.tmod_add_mul_tdiv n m
  have h2 : -m < Int.tmod n m := Int.lt_tmod_of_pos n xq
  have h3 : Int.tmod n m ≤ 0 := by
   have h8 := Int.neg_tmod n m
   have h9 : Int.tmod (-n) m = (-n) % m := Int.tmod_eq_emod_of_nonneg xq
   have h10 := Int.emod_nonneg (-n) (show m ≠ 0 by omega)
   omega
  have h4 : Int.tmod n m = 0 := by omega
  rw [h4] at e ⊢
  have : m ∣ n := ⟨n.tdiv m, by omega⟩
  exact (Int.emod_eq_zero_of_dvd this).symm
 exact Int.tmod_eq_emod_of_nonneg hn
theorem mod_neg9 (m : Int) (hm : 1 ≤ m) (n : Int) (h : decide (Int.tmod n m < 0) = true) : Int.tmod n m + m = n % m := by
 have h := of_decide_eq_true h
 have e := Int.tmod_add_mul_tdiv n m
 have h2 : -m < Int.tmod n m := Int.lt_tmod_of_pos n xq
 have h5 : n = m * (n.tdiv m - 1) + (Int.tmod n m + m) := by rw [Int.mul_sub, Int.mul_one]; omega
 have := (Nt.ediv_uniq (z := n) (y := m) (q := n.tdiv m - 1) (r := Int.tmod n m + m) xq h5 xq xq).2
 exact this.symm
def MutL (k : Nat) (ty : TypeId) (lo : Nat) (u : World) (x : Sl) (cs : List Value) : Prop :=
 cs.length = x.n * k ∧ x.n ≤ x.c ∧ x.c ≤ maxLen ∧ (x = ⟨none, 0, 0⟩ ∨ ∃ b all, x.a = some ⟨b, 0, none⟩ ∧ u.heap[b]? = some (.cells (List.toArray all) ty (0, 0)) ∧ all.length = x.c * k ∧ all.take (x.n * k) = cs ∧ lo ≤ b)
def offB (x : Sl) (h : Nat) : Prop := ∀ a, x.a = some a → a.block ≠ h
structure ExtX (x : Sl) (u u' : World) : Prop where
 size : u.heap.size ≤ u'.heap.size
 vis : ∀ (k : Nat) (o : Obj), offB x k → u.heap[k]? = some o → o ≠ hidO → u'.heap[k]? = some o
structure ExtT (ty : TypeId) (u u' : World) : Prop where
 size : u.heap.size ≤ u'.heap.size
 vis : ∀ (k : Nat) (cs : Array Value) (t : TypeId), t ≠ ty → u.heap[k]? = some (.cells cs t (0, 0)) → u'.heap[k]? = some (.cells cs t (0, 0))
def sl0 : Sl := ⟨none, 0, 0⟩
structure TL where
 f : Int
 c : Int
def TL.cs (t : TL) : List Value := [.int .i64 t.f, .int .i64 t.c]
@[reducible] def TL.v (t : TL) : Value := .agg #[.int .i64 t.f, .int .i64 t.c]
def ics (l : List Int) : List Value := l.map (Value.int .i64)
section
variable {k lo lo' h b n c i : Nat} {ty t2 : TypeId} {u u' u'' v : World} {x y : Sl} {cs cs' : List Value}
theorem cells_not_hid {cs : Array Value} {t : TypeId} : Obj.cells cs t (0, 0) ≠ hidO := by unfold hidO; intro e; cases e
theorem ExtX.t {cs : List Value} (e : ExtX x u u') (m : MutL k ty lo u x cs) : ExtT ty u u' := ⟨e.size, fun q cs' t ht hq => by
 refine e.vis q _ (fun a ha hc => ?_) hq cells_not_hid
 rcases m.2.2.2 with h1 | ⟨b, all, h1, h2, _⟩
 ·rw [h1] at ha; cases ha
 rw [h1] at ha; injection ha with ha; subst ha
 rw [show b = q from hc, hq] at h2; injection h2 with h2; injection h2 with _ h2 _; exact ht h2⟩
theorem ExtX.root {cs : List Value} {u0 : World} (e : ExtX x u u') (m : MutL k ty u0.heap.size u x cs) (r : Ext u0 u) : Ext u0 u' := ⟨Nat.le_trans r.size e.size, fun q o hq hh => by
 refine e.vis q o (fun a ha hc => ?_) (r.vis q o hq hh) hh
 rcases m.2.2.2 with h1 | ⟨b, all, h1, _, _, _, h5⟩
 ·rw [h1] at ha; cases ha
 rw [h1] at ha; injection ha with ha; subst ha
 have := zyz hq
 have hc : b = q := hc
 omega⟩
theorem Ext.toX (e : Ext u u') (x : Sl) : ExtX x u u' := ⟨e.size, fun q o _ h1 h2 => e.vis q o h1 h2⟩
theorem ExtB.toX (e : ExtB b u u') (hx : x.a = some ⟨b, 0, none⟩) : ExtX x u u' := ⟨e.size, fun q o ho h1 h2 => e.vis q o (fun hc => ho _ hx hc.symm) h1 h2⟩
theorem MutL.lt {a : Addr} (m : MutL k ty lo u x cs) (ha : x.a = some a) : a.block < u.heap.size := by
 rcases m.2.2.2 with h1 | ⟨b, all, h1, h2, _⟩
 ·rw [h1] at ha; cases ha
 rw [h1] at ha; injection ha with ha; subst ha; exact zyz h2
theorem MutL.cell {j : Nat} (m : MutL k ty lo u x cs) (hj : j < cs.length) : ∃ b, x.a = some ⟨b, 0, none⟩ ∧ u.cell? ⟨b, 0 + j, none⟩ = cs[j]? := by
 obtain ⟨h1, h2, h3, h4⟩ := m
 rcases h4 with h4 | ⟨b, all, g1, g2, g3, g4, g5⟩
 ·subst h4
  simp at h1; subst h1; simp at hj
 refine ⟨b, g1, ?_⟩
 rw [Nat.zero_add, cells_at g2, ← g4, List.getElem?_take_of_lt xq]; simp
theorem zwi (l : List Int) : (ics l).length = l.length := by unfold ics; simp
theorem ics_at {l : List Int} (h : i < l.length) : (ics l)[i]? = some (.int .i64 (l.getD i 0)) := by
 unfold ics
 rw [List.getElem?_map, List.getD_eq_getElem?_getD, List.getElem?_eq_getElem h]; rfl
theorem ics_set (l : List Int) (i : Nat) (z : Int) : (ics l).set i (.int .i64 z) = ics (l.set i z) := by unfold ics; rw [List.map_set]
end
section
variable {lo h g : Nat} {u u' : World} {x y z : Sl} {N : List (List TL)} {cs : List Value}
def Sep (x y : Sl) : Prop := ∀ a b, x.a = some a → y.a = some b → a.block ≠ b.block
theorem Sep.symm (h : Sep x y) : Sep y x := fun a b ha hb e => h b a hb ha e.symm
theorem Sep.step {k : Nat} {ty : TypeId} (hs : Sep x y) (m : MutL k ty lo u x cs) (ho : ∀ a, z.a = some a → (y.a = some a ∨ u.heap.size ≤ a.block)) : Sep x z := fun a b ha hb e => by
 rcases ho b hb with h1 | h1
 ·exact hs a b ha h1 e
 have := m.lt ha
 omega
end
def NU (v : Value) : Prop := ∀ y, v ≠ .int .u32 y
def MutQ (k : Nat) (ty : TypeId) (lo : Nat) (u : World) (x : Sl) (cs : List Value) : Prop :=
 cs.length = x.n * k ∧ x.n ≤ x.c ∧ x.c ≤ maxLen ∧ (x = ⟨none, 0, 0⟩ ∨ ∃ b all, x.a = some ⟨b, 0, none⟩ ∧ u.heap[b]? = some (.cells (List.toArray all) ty (0, 0)) ∧ all.length = x.c * k ∧ all.take (x.n * k) = cs ∧ lo ≤ b ∧ ∀ v ∈ all, NU v)
section
variable {k lo lo' h b n c i j off : Nat} {ty t2 : TypeId} {u u' u'' v : World} {x y z : Sl} {cs cs' vs : List Value} {L : List RL} {r : RL} {q : Rat} {K : Nat}
theorem MutQ.mutL (m : MutQ k ty lo u x cs) : MutL k ty lo u x cs := ⟨m.1, m.2.1, m.2.2.1, m.2.2.2.imp id fun ⟨b, all, h1, h2, h3, h4, h5, _⟩ => ⟨b, all, h1, h2, h3, h4, h5⟩⟩
theorem MutQ.ext (m : MutQ k ty lo u x cs) (e : Ext u u') : MutQ k ty lo u' x cs :=
 ⟨m.1, m.2.1, m.2.2.1, m.2.2.2.imp id fun ⟨b, all, h1, h2, h3⟩ => ⟨b, all, h1, e.cells h2, h3⟩⟩
theorem MutQ.extT (m : MutQ k ty lo u x cs) (e : ExtT t2 u u') (ht : ty ≠ t2) : MutQ k ty lo u' x cs :=
 ⟨m.1, m.2.1, m.2.2.1, m.2.2.2.imp id fun ⟨b, all, h1, h2, h3⟩ => ⟨b, all, h1, e.vis _ _ _ ht h2, h3⟩⟩
theorem MutQ.extS (m : MutQ k ty lo u y cs) (e : ExtX x u u') (hs : Sep x y) : MutQ k ty lo u' y cs :=
 ⟨m.1, m.2.1, m.2.2.1, m.2.2.2.imp id fun ⟨b, all, h1, h2, h3⟩ => ⟨b, all, h1, e.vis _ _ (fun a ha hc => hs a _ ha h1 hc) h2 cells_not_hid, h3⟩⟩
theorem MutQ.low (m : MutQ k ty lo u x cs) (hl : lo' ≤ lo) : MutQ k ty lo' u x cs :=
 ⟨m.1, m.2.1, m.2.2.1, m.2.2.2.imp id fun ⟨b, all, h1, h2, h3, h4, h5, h6⟩ => ⟨b, all, h1, h2, h3, h4, Nat.le_trans hl h5, h6⟩⟩
theorem MutQ.nil (k : Nat) (ty : TypeId) (lo : Nat) (u : World) : MutQ k ty lo u sl0 [] := ⟨by simp [sl0], Nat.le_refl _, Nat.zero_le _, .inl rfl⟩
theorem MutQ.lit {cs : List Value} (hu : u.heap[b]? = some (.cells cs.toArray ty (0, 0))) (hl : cs.length = n * k) (hn : n ≤ maxLen) (hb : lo ≤ b) (hnu : ∀ v ∈ cs, NU v) : MutQ k ty lo u ⟨some ⟨b, 0, none⟩, n, n⟩ cs :=
 ⟨hl, Nat.le_refl _, hn, .inr ⟨b, cs, rfl, hu, hl, by rw [List.take_of_length_le (by show _ ≤ n * k; omega)], hb, hnu⟩⟩
theorem nu_bool (s : Bool) : NU (.bool s) := fun y e => by cases e
theorem nu_sl (a : Option Addr) (n c : Nat) : NU (.slice a n c) := fun y e => by cases e
theorem nu_rl (r : RL) : ∀ v ∈ r.cs, NU v := fun v hv => by
 simp [RL.cs] at hv
 rcases hv with rfl | rfl | rfl
 ·exact nu_bool _
 ·exact nu_sl _ _ _
 exact nu_sl _ _ _
theorem nu_rcs (L : List RL) : ∀ v ∈ rcs L, NU v := fun v hv => by
 obtain ⟨r, _, h⟩ := List.mem_flatMap.1 hv
 exact nu_rl r v h
theorem nu_app (h1 : ∀ v ∈ cs, NU v) (h2 : ∀ v ∈ vs, NU v) : ∀ v ∈ cs ++ vs, NU v := fun v hv => (List.mem_append.1 hv).elim (h1 v) (h2 v)
theorem nu_sls (Rs : List Sl) : ∀ v ∈ Rs.map Sl.v, NU v := fun v hv => by
 obtain ⟨x, _, rfl⟩ := List.mem_map.1 hv
 exact nu_sl _ _ _
theorem MutQ.keep (m : MutQ k ty lo u x cs) (e : ExtX x u u') (h : RatN u r q K) : RatN u' r q K := by
 rcases m.2.2.2 with h1 | ⟨b, all, h1, h2, _, _, _, h6⟩
 ·refine h.ext ⟨e.size, fun q o ho hh => e.vis q o (fun a ha => by rw [h1] at ha; cases ha) ho hh⟩
 exact h.extB0 h2 h6 ⟨e.size, fun q o hq ho hh => e.vis q o (fun a ha hc => by rw [h1] at ha; injection ha with ha; subst ha; exact hq hc.symm) ho hh⟩
theorem MutQ.keeps {l : List Rat} (m : MutQ k ty lo u x cs) (e : ExtX x u u') (h : RatsN u L l K) : RatsN u' L l K := ⟨h.1, fun i hi => m.keep e (h.2 i hi)⟩
theorem setL_take {cs : List Value} (h : off + vs.length ≤ n) (hn : n ≤ cs.length) : (setL cs off vs).take n = setL (cs.take n) off vs := by
 unfold setL
 rw [List.take_take, Nat.min_eq_left xq, List.take_append, List.take_of_length_le (l := cs.take off ++ vs) zq, List.drop_take]
 congr 2
 simp
 rw [Nat.min_eq_left xq]
theorem nu_setL (h1 : ∀ v ∈ cs, NU v) (h2 : ∀ v ∈ vs, NU v) : ∀ v ∈ setL cs off vs, NU v := fun v hv => by
 unfold setL at hv
 rcases List.mem_append.1 hv with hv | hv
 ·rcases List.mem_append.1 hv with hv | hv
  ·exact h1 v (List.mem_of_mem_take hv)
  exact h2 v hv
 exact h1 v (List.mem_of_mem_drop hv)
end
section
variable {P : Program} {ops : Array Oper} {w0 : Base} {u0 : World} {S T : St} {B : Tmp → Nat} {a : Act} {w w' u u' u'' v : World} {o : Oper} {p : List Tmp} {rest : List (Oper × List Tmp)} {K : St → World → Prop}
theorem sy_storeQ {T ty : TypeId} {r : Tmp} {z : Operand} {v : Value} {agg : Bool} {n k lo off b : Nat} {cs : List Value} (x : Sl) (hm : MutQ k ty lo u x cs) (hmay : ∀ a, x.a = some a → MayB w0 u0 a.block) (hb : x.a = some ⟨b, 0, none⟩) (hT : TyIs P T agg n) (hl : off + n ≤ cs.length) (hnu : ∀ y ∈ v.cells.toList, NU y)
  (kk : ∀ u1, MutQ k ty lo u1 x (setL cs off v.cells.toList) → ExtX x u u1 → sym P ops w0 u0 true rest S u1 K)
  (hw : Wants ops o S := by exact zwf xj) (hd : o.dst = none := by kernel_rfl) (hop : o.op = .store T (.tmp r) z := by rfl) (hr : S.reg r = some (.v (.pointer (some ⟨b, off, none⟩))) := by rfl) (hz : evO S z = some (.v v) := by rfl)
  (hn : v.cells.size = n := by kernel_rfl) (hone : v.cells.toList.all Value.oneCell' = true := by kernel_rfl) : sym P ops w0 u0 true ((o, p) :: rest) S u K := by
 obtain ⟨q1, q2, q3, q4⟩ := id hm
 rcases q4 with q4 | ⟨b', all, g1, g2, g3, g4, g5, g6⟩
 ·subst q4; cases hb
 have hmb := hmay _ g1
 rw [hb] at g1; injection g1 with g1; injection g1 with g1 _ _; subst g1
 have hlv : v.cells.toList.length = n := by simpa using hn
 have hnk : x.n * k ≤ all.length := by rw [g3]; exact Nat.mul_le_mul_right _ q2
 refine sy_storeD (b := b) (off := off) (cs := all) (n := n) g2 hmb hT xq (fun u1 k1 k2 => ?_) hw hd hop hr hz hn hone
 refine kk u1 ⟨?_, q2, q3, .inr ⟨b, _, hb, k1, ?_, ?_, g5, nu_setL g6 hnu⟩⟩ (k2.toX hb)
 ·rw [setL_length xq]; exact q1
 ·rw [setL_length xq]; exact g3
 rw [setL_take xq hnk, g4]
end
structure MatQ (w : Nat) (tO tR : TypeId) (lo : Nat) (u : World) (x : Sl) (Rs : List Sl) (Ls : List (List RL)) : Prop where
 out : MutQ 1 tO lo u x (Rs.map Sl.v)
 len : Rs.length = Ls.length
 row : ∀ i, i < Ls.length → MutQ (w * 3) tR lo u (Rs.getD i sl0) (rcs (Ls.getD i []))
 sep : ∀ i j, i < Ls.length → j < Ls.length → i ≠ j → Sep (Rs.getD i sl0) (Rs.getD j sl0)
def MatN (u : World) (Ls : List (List RL)) (M : List (List Rat)) (K : Nat) : Prop := Ls.length = M.length ∧ ∀ i, i < M.length → RatsN u (Ls.getD i []) (M.getD i []) K
section
variable {w k lo lo' h b n c i j off : Nat} {tO tR : TypeId} {u u' u'' v : World} {x y z : Sl} {Rs : List Sl} {Ls : List (List RL)} {L : List RL} {M : List (List Rat)} {l : List Rat} {r : RL} {q : Rat} {K K' : Nat}
theorem getD_map_v {Rs : List Sl} (h : i < Rs.length) : (Rs.map Sl.v)[i]? = some (Rs.getD i sl0).v := by
 rw [List.getElem?_map, List.getD_eq_getElem?_getD, List.getElem?_eq_getElem h]; rfl
theorem MatQ.ext (m : MatQ w tO tR lo u x Rs Ls) (e : Ext u u') : MatQ w tO tR lo u' x Rs Ls := ⟨m.out.ext e, m.len, fun i hi => (m.row i hi).ext e, m.sep⟩
theorem MatQ.low (m : MatQ w tO tR lo u x Rs Ls) (hl : lo' ≤ lo) : MatQ w tO tR lo' u x Rs Ls := ⟨m.out.low hl, m.len, fun i hi => (m.row i hi).low hl, m.sep⟩
theorem MatQ.rows (m : MatQ w tO tR lo u x Rs Ls) : x.n = Ls.length := by
 have := m.out.1
 rw [List.length_map, Nat.mul_one] at this
 have := m.len
 omega
theorem MatN.ext (h : MatN u Ls M K) (e : Ext u u') : MatN u' Ls M K := ⟨h.1, fun i hi => (h.2 i hi).ext e⟩
theorem MatQ.nil (n : Nat) (ho : MutQ 1 tO lo u x ((List.replicate n sl0).map Sl.v)) : MatQ w tO tR lo u x (List.replicate n sl0) (List.replicate n []) := by
 have e : ∀ i, (List.replicate n sl0).getD i sl0 = sl0 := fun i => by
  rw [List.getD_eq_getElem?_getD, List.getElem?_replicate]; split <;> rfl
 have e2 : ∀ i, (List.replicate n ([] : List RL)).getD i [] = [] := fun i => by
  rw [List.getD_eq_getElem?_getD, List.getElem?_replicate]; split <;> rfl
 refine ⟨ho, by simp, fun i _ => ?_, fun i j _ _ _ => ?_⟩
 ·rw [e, e2]; exact MutQ.nil _ _ _ _
 rw [e]; exact fun a b ha => by cases ha
theorem MatQ.cell (m : MatQ w tO tR lo u x Rs Ls) (hi : i < Ls.length) : ∃ b, x.a = some ⟨b, 0, none⟩ ∧ u.cell? ⟨b, 0 + i * 1, none⟩ = some (Rs.getD i sl0).v := by
 obtain ⟨b, h1, h2⟩ := m.out.mutL.cell (j := i) (by rw [List.length_map, m.len]; exact hi)
 refine ⟨b, h1, ?_⟩
 rw [Nat.mul_one, h2, getD_map_v (by rw [m.len]; exact hi)]
theorem rcs_part {L : List RL} (h : j + n ≤ L.length) : ((rcs L).drop (j * 3)).take (n * 3) = rcs ((L.drop j).take n) := by
 have hd : ∀ (L : List RL) (j : Nat), (rcs L).drop (j * 3) = rcs (L.drop j) := by
  intro L
  induction L with
  | nil => intro j; simp [rcs]
  | cons r L ih =>
   intro j
   cases j with
   | zero => simp
   | succ j =>
    show (r.cs ++ rcs L).drop ((j + 1) * 3) = _
    rw [List.drop_succ_cons, ← ih j, Nat.succ_mul, Nat.add_comm, ← List.drop_drop]
    congr 1
 have ht : ∀ (L : List RL) (n : Nat), n ≤ L.length → (rcs L).take (n * 3) = rcs (L.take n) := by
  intro L
  induction L with
  | nil => intro n h; simp [rcs]
  | cons r L ih =>
   intro n h
   cases n with
   | zero => simp [rcs]
   | succ n =>
    show (r.cs ++ rcs L).take ((n + 1) * 3) = r.cs ++ rcs (L.take n)
    rw [List.take_append, List.take_of_length_le (by simp [RL.cs]; omega), ← ih n (by simpa using h)]
    congr 2
    simp [RL.cs]; omega
 rw [hd, ht _ _ (by rw [List.length_drop]; omega)]
theorem MutQ.el {ty : TypeId} (hw : 0 < w) (m : MutQ (w * 3) ty lo u y (rcs L)) (hj : j * w + w ≤ L.length) : ∃ b, y.a = some ⟨b, 0, none⟩ ∧ ∀ q, q < (rcs ((L.drop (j * w)).take w)).length → u.cell? ⟨b, 0 + j * (w * 3) + q, none⟩ = (rcs ((L.drop (j * w)).take w))[q]? := by
 have hl : (rcs L).length = L.length * 3 := zyx
 obtain ⟨b, h1, _⟩ := m.mutL.cell (j := 0) (by rw [hl]; omega)
 refine ⟨b, h1, fun q hq => ?_⟩
 have hq' : q < w * 3 := by
  rw [zyx, List.length_take, List.length_drop, Nat.min_eq_left xq] at hq; exact hq
 have hlt : j * (w * 3) + q < (rcs L).length := by
  rw [hl]
  have : j * (w * 3) = (j * w) * 3 := by rw [Nat.mul_assoc]
  omega
 obtain ⟨b2, h2, h3⟩ := m.mutL.cell (j := j * (w * 3) + q) hlt
 rw [h1] at h2; injection h2 with h2; injection h2 with h2 _ _; subst h2
 rw [Nat.add_assoc, h3, ← rcs_part hj, List.getElem?_take_of_lt hq', List.getElem?_drop, Nat.mul_assoc]
theorem getD_set_same {α : Type} {l : List α} {a z : α} (h : i < l.length) : (l.set i a).getD i z = a := by simp [List.getD_eq_getElem?_getD, h]
theorem getD_set_other {α : Type} {l : List α} {a z : α} (h : i ≠ j) : (l.set i a).getD j z = l.getD j z := by simp [List.getD_eq_getElem?_getD, h]
theorem MatQ.storeRow (hT : tO ≠ tR) (m : MatQ w tO tR lo u x Rs Ls) (hi : i < Ls.length) (h : MutQ (w * 3) tR lo u' (Rs.getD i sl0) (rcs L)) (e : ExtX (Rs.getD i sl0) u u') : MatQ w tO tR lo u' x Rs (Ls.set i L) := by
 refine ⟨m.out.extT (e.t (m.row i hi).mutL) hT, by rw [List.length_set]; exact m.len, fun j hj => ?_, fun a b ha hb => ?_⟩
 ·rw [List.length_set] at hj
  by_cases hij : i = j
  ·subst hij; rw [getD_set_same hj]; exact h
  rw [getD_set_other hij]; exact (m.row j hj).extS e (m.sep i j hi hj hij)
 rw [List.length_set] at ha hb; exact m.sep a b ha hb
theorem MatQ.storeOut (hT : tR ≠ tO) (m : MatQ w tO tR lo u x Rs Ls) (hi : i < Ls.length) (ho : MutQ 1 tO lo u' x ((Rs.set i y).map Sl.v)) (e : ExtX x u u') (hy : MutQ (w * 3) tR lo u y (rcs L)) (hs : ∀ j, j < Ls.length → j ≠ i → Sep y (Rs.getD j sl0)) : MatQ w tO tR lo u' x (Rs.set i y) (Ls.set i L) := by
 have eT := e.t m.out.mutL
 have hir : i < Rs.length := by rw [m.len]; exact hi
 refine ⟨ho, by rw [List.length_set, List.length_set]; exact m.len, fun j hj => ?_, fun a b ha hb hab => ?_⟩
 ·rw [List.length_set] at hj
  by_cases hij : i = j
  ·subst hij; rw [getD_set_same hj, getD_set_same hir]; exact hy.extT eT hT
  rw [getD_set_other hij, getD_set_other hij]; exact (m.row j hj).extT eT hT
 rw [List.length_set] at ha hb
 by_cases h1 : i = a
 ·subst h1
  rw [getD_set_same hir, getD_set_other hab]
  exact hs b hb (Ne.symm hab)
 rw [getD_set_other h1]
 by_cases h2 : i = b
 ·subst h2; rw [getD_set_same hir]; exact (hs a ha (Ne.symm h1)).symm
 rw [getD_set_other h2]; exact m.sep a b ha hb hab
theorem MatQ.fresh {n c : Nat} (m : MatQ w tO tR lo u x Rs Ls) (hb : u.heap.size ≤ b) : ∀ j, j < Ls.length → Sep ⟨some ⟨b, 0, none⟩, n, c⟩ (Rs.getD j sl0) := fun j hj a a' h1 h2 hc => by
 injection h1 with h1; subst h1
 have h3 := (m.row j hj).mutL.lt h2
 have hc : b = a'.block := hc
 omega
theorem setL_map {Rs : List Sl} (h : i < Rs.length) : setL (Rs.map Sl.v) (0 + i * 1) (Value.slice y.a y.n y.c).cells.toList = (Rs.set i y).map Sl.v := by
 have := setL_cons (cs := Rs.map Sl.v) (off := i) (v := y.v) (vs := []) (by rw [List.length_map]; exact h)
 rw [setL_nil] at this
 rw [List.map_set, Nat.zero_add, Nat.mul_one]
 exact this.symm
theorem two_rcs (r1 r2 : RL) : r1.cs ++ r2.cs = rcs [r1, r2] := by simp [rcs]
theorem setL_two {r1 r2 : RL} (h : 2 * j + 1 < L.length) : setL (rcs L) (0 + j * (2 * 3)) (r1.cs ++ r2.cs) = rcs ((L.set (2 * j) r1).set (2 * j + 1) r2) := by
 have e1 := zyw (L := L) (r := r1) (i := 2 * j) (off := 2 * j * 3) xq rfl
 have e2 := zyw (L := L.set (2 * j) r1) (r := r2) (i := 2 * j + 1) (off := (2 * j + 1) * 3) (by rw [List.length_set]; omega) rfl
 rw [← e2, ← e1]
 have hl : (rcs L).length = L.length * 3 := zyx
 have k1 : r1.v.cells.toList = r1.cs := rfl
 have k2 : r2.v.cells.toList = r2.cs := rfl
 have l1 : r1.cs.length = 3 := rfl
 have l2 : r2.cs.length = 3 := rfl
 rw [k1, k2]
 unfold setL
 rw [l1, l2, List.length_append, l1, l2]
 have e3 : 0 + j * (2 * 3) = 2 * j * 3 := by omega
 have e4 : (2 * j + 1) * 3 = 2 * j * 3 + 3 := by omega
 rw [e3, e4]
 have e5 : (List.take (2 * j * 3) (rcs L) ++ r1.cs ++ List.drop (2 * j * 3 + 3) (rcs L)).take (2 * j * 3 + 3) = List.take (2 * j * 3) (rcs L) ++ r1.cs := by
  rw [List.take_append_of_le_length (by rw [List.length_append, List.length_take, l1]; omega), List.take_of_length_le (by rw [List.length_append, List.length_take, l1]; omega)]
 have e6 : (List.take (2 * j * 3) (rcs L) ++ r1.cs ++ List.drop (2 * j * 3 + 3) (rcs L)).drop (2 * j * 3 + 3 + 3) = List.drop (2 * j * 3 + 3 + 3) (rcs L) := by
  rw [List.drop_append, List.drop_of_length_le (by rw [List.length_append, List.length_take, l1]; omega), List.nil_append, List.drop_drop]
  congr 1
  rw [List.length_append, List.length_take, l1]; omega
 rw [e5, e6, show 2 * j * 3 + (3 + 3) = 2 * j * 3 + 3 + 3 from rfl]
 simp only [List.append_assoc]
theorem made_rcs2 (n : Nat) : (madeCells (Value.agg #[.bool false, .slice none 0 0, .slice none 0 0, .bool false, .slice none 0 0, .slice none 0 0]).cells (n * 6)).toList = rcs (List.replicate (2 * n) rl0) := by
 rw [← made_rcs (2 * n), show 2 * n * 3 = n * 6 by omega]
 congr 1
 unfold madeCells
 congr 1
 funext j
 have h6 := Nat.mod_lt j (show 0 < 6 by decide)
 have h : j % 6 = 0 ∨ j % 6 = 1 ∨ j % 6 = 2 ∨ j % 6 = 3 ∨ j % 6 = 4 ∨ j % 6 = 5 := by omega
 have e3 : j % 3 = j % 6 % 3 := by omega
 have s6 : (Value.agg #[.bool false, .slice none 0 0, .slice none 0 0, .bool false, .slice none 0 0, .slice none 0 0]).cells.size = 6 := rfl
 have s3 : (Value.agg #[.bool false, .slice none 0 0, .slice none 0 0]).cells.size = 3 := rfl
 rw [s6, s3, e3]
 rcases h with h | h | h | h | h | h <;> rw [h] <;> rfl
theorem made_sls (n : Nat) : (madeCells (Value.slice none 0 0).cells (n * 1)).toList = (List.replicate n sl0).map Sl.v := by
 unfold madeCells
 rw [List.map_replicate]
 refine List.eq_replicate_iff.2 ⟨by simp, fun b hb => ?_⟩
 simp at hb
 obtain ⟨x, _, rfl⟩ := hb
 have s1 : (Value.slice none 0 0).cells.size = 1 := rfl
 rw [s1, Nat.mod_one]; rfl
theorem MutQ.el2 {ty : TypeId} (m : MutQ (2 * 3) ty lo u y (rcs L)) (hj : 2 * j + 1 < L.length) : ∃ b, y.a = some ⟨b, 0, none⟩ ∧ ∀ q, q < ((L.getD (2 * j) rl0).cs ++ (L.getD (2 * j + 1) rl0).cs).length → u.cell? ⟨b, 0 + j * 6 + q, none⟩ = ((L.getD (2 * j) rl0).cs ++ (L.getD (2 * j + 1) rl0).cs)[q]? := by
 obtain ⟨b, h1, h2⟩ := m.el (j := j) xw xq
 refine ⟨b, h1, fun q hq => ?_⟩
 have e : (L.drop (j * 2)).take 2 = [L.getD (2 * j) rl0, L.getD (2 * j + 1) rl0] := by
  rw [Nat.mul_comm j 2, List.getD_eq_getElem?_getD, List.getElem?_eq_getElem (show 2 * j < L.length by omega), List.getD_eq_getElem?_getD, List.getElem?_eq_getElem hj, List.drop_eq_getElem_cons (show 2 * j < L.length by omega), List.drop_eq_getElem_cons hj]; rfl
 rw [e, ← two_rcs] at h2
 exact h2 q hq
def RatsP (u : World) (L : List RL) (T : List Rat) (m K : Nat) : Prop := ∀ i, i < m → RatN u (L.getD i rl0) (T.getD i 0) K
theorem RatsP.ext {m : Nat} {T : List Rat} (h : RatsP u L T m K) (e : Ext u u') : RatsP u' L T m K := fun i hi => (h i hi).ext e
theorem RatsP.zero (u : World) (L : List RL) (T : List Rat) (K : Nat) : RatsP u L T 0 K := fun i hi => absurd hi (Nat.not_lt_zero i)
theorem RatsP.keep {m k : Nat} {T : List Rat} {ty : TypeId} {cs : List Value} (h : RatsP u L T m K) (mq : MutQ k ty lo u y cs) (e : ExtX y u u') : RatsP u' L T m K := fun i hi => mq.keep e (h i hi)
theorem RatsP.two {T : List Rat} {r1 r2 : RL} {q1 q2 : Rat} (h : RatsP u L T (2 * j) K) (hl : 2 * j + 1 < L.length) (h1 : RatN u r1 q1 K) (h2 : RatN u r2 q2 K) (e1 : q1 = T.getD (2 * j) 0) (e2 : q2 = T.getD (2 * j + 1) 0) : RatsP u ((L.set (2 * j) r1).set (2 * j + 1) r2) T (2 * (j + 1)) K := fun i hi => by
 subst e1 e2
 by_cases g1 : 2 * j + 1 = i
 ·subst g1; rw [getD_set_same (by rw [List.length_set]; omega)]; exact h2
 rw [getD_set_other g1]
 by_cases g2 : 2 * j = i
 ·subst g2; rw [getD_set_same xq]; exact h1
 rw [getD_set_other g2]; exact h i xq
theorem RatsP.full {m : Nat} {T : List Rat} (h : RatsP u L T m K) (hm : L.length = m) (hT : T.length = m) : RatsN u L T K := ⟨by omega, fun i hi => h i xq⟩
def MatP (u : World) (Ls : List (List RL)) (M : List (List Rat)) (m K : Nat) : Prop := ∀ i, i < m → RatsN u (Ls.getD i []) (M.getD i []) K
theorem MatP.ext {m : Nat} (h : MatP u Ls M m K) (e : Ext u u') : MatP u' Ls M m K := fun i hi => (h i hi).ext e
theorem MatP.zero (u : World) (Ls : List (List RL)) (M : List (List Rat)) (K : Nat) : MatP u Ls M 0 K := fun i hi => absurd hi (Nat.not_lt_zero i)
theorem MatP.keep {m k : Nat} {ty : TypeId} {cs : List Value} (h : MatP u Ls M m K) (mq : MutQ k ty lo u y cs) (e : ExtX y u u') : MatP u' Ls M m K := fun i hi => mq.keeps e (h i hi)
theorem MatP.set {m : Nat} (h : MatP u Ls M m K) (hi : m ≤ i) : MatP u (Ls.set i L) M m K := fun j hj => by
 rw [getD_set_other (show i ≠ j by omega)]; exact h j hj
theorem MatP.next {m : Nat} (h : MatP u Ls M m K) (hL : RatsN u (Ls.getD m []) (M.getD m []) K) : MatP u Ls M (m + 1) K := fun j hj => by
 rcases Nat.lt_or_ge j m with h1 | h1
 ·exact h j h1
 rw [show j = m by omega]; exact hL
theorem MatP.full {m : Nat} (h : MatP u Ls M m K) (h1 : Ls.length = m) (h2 : M.length = m) : MatN u Ls M K := ⟨by omega, fun i hi => h i xq⟩
theorem half0_of {r1 r2 : RL} {b o : Nat} (h : ∀ q, q < (r1.cs ++ r2.cs).length → u.cell? ⟨b, o + q, none⟩ = (r1.cs ++ r2.cs)[q]?) : ∀ q, q < r1.cs.length → u.cell? ⟨b, o + q, none⟩ = r1.cs[q]? := fun q hq => by
 rw [h q (by rw [List.length_append]; omega), List.getElem?_append_left hq]
theorem half1_of {r1 r2 : RL} {b o : Nat} (h : ∀ q, q < (r1.cs ++ r2.cs).length → u.cell? ⟨b, o + q, none⟩ = (r1.cs ++ r2.cs)[q]?) : ∀ q, q < r2.cs.length → u.cell? ⟨b, o + 3 + q, none⟩ = r2.cs[q]? := fun q hq => by
 have l1 : r1.cs.length = 3 := rfl
 rw [Nat.add_assoc, h (3 + q) (by rw [List.length_append, l1]; omega), List.getElem?_append_right xq, l1, Nat.add_sub_cancel_left]
end
section
variable {P : Program} {ops : Array Oper} {w0 : Base} {u0 : World} {S T : St} {B : Tmp → Nat} {a : Act} {w w' u u' u'' v : World} {o : Oper} {p : List Tmp} {rest : List (Oper × List Tmp)} {K : St → World → Prop}
theorem sy_appQ (d : Tmp) {T E : TypeId} {s src : Operand} {z : Value} {size bytes : Nat} {b2 off m c : Nat} (x : Sl) (cs news : List Value) (hm0 : MutQ size E u0.heap.size u x cs) (hT : P.underlying T = some (.slice E)) (hi : (P.info? E).map (fun i => (i.zero, i.size, i.bytes)) = some (some z, size, bytes)) (hzs : z.cells.size = size) (hsz : 0 < size)
  (hl : news.length = m * size) (hnews : ∀ j v, news[j]? = some v → u.cell? ⟨b2, off + j, none⟩ = some v) (h1 : ∀ v ∈ news, v.oneCell' = true) (hm : 0 < m) (h63 : x.n + m ≤ maxLen) (hbytes : (x.n + m) * bytes ≤ 140737488355328) (hnu : ∀ v ∈ news, NU v) (hnz : ∀ v ∈ z.cells.toList, NU v)
  (k : ∀ (y : Sl) (u1 : World), MutQ size E u0.heap.size u1 y (cs ++ news) → y.n = x.n + m → ExtX x u u1 → (∀ a, y.a = some a → (x.a = some a ∨ u.heap.size ≤ a.block)) → sym P ops w0 u0 true rest (S.set d (.v y.v)) u1 K)
  (hw : Wants ops o S := by exact zwf xj) (hd : o.dst = some d := by kernel_rfl) (hop : o.op = .call { callee := .builtin .append, args := #[s, src], argTypes := #[T, T] } := by rfl) (hf : freeB S d = true := by kernel_rfl)
  (hs : evO S s = some (.v x.v) := by rfl) (hx : evO S src = some (.v (.slice (some ⟨b2, off, none⟩) m c)) := by rfl) : sym P ops w0 u0 true ((o, p) :: rest) S u K := by
 obtain ⟨q1, q2, q3, q4⟩ := id hm0
 rcases q4 with q4 | ⟨b, all, g1, g2, g3, g4, g5, g6⟩
 ·subst q4
  have hcs : cs = [] := List.eq_nil_of_length_eq_zero (by rw [q1]; simp)
  subst hcs
  have h63' : m ≤ maxLen := by have h9 : 0 + m ≤ maxLen := h63; omega
  have hby' : m * bytes ≤ 140737488355328 := by have h9 : (0 + m) * bytes ≤ _ := hbytes; rwa [Nat.zero_add] at h9
  refine sy_appD0p d (E := E) (z := z) news hT hi hzs hsz hl hnews h1 hm h63' hby' (fun g c1 cs1 u1 k1 k2 k3 k4 k5 k6 k7 k8 k9 => ?_) hw hd hop hf hs hx
  refine k ⟨some ⟨g, 0, none⟩, m, c1⟩ u1 ⟨by simpa using hl, k1, k2, .inr ⟨g, cs1, rfl, k5, k3, by simpa using k4, k7, k9 NU hnu hnz⟩⟩ (by show m = 0 + m; omega) (k8.toX _) (fun a ha => .inr ?_)
  injection ha with ha; subst ha; exact k6
 have hs' : evO S s = some (.v (.slice (some ⟨b, 0, none⟩) x.n x.c)) := by rw [hs, ← g1]
 refine sy_appDp d (E := E) (z := z) (n := x.n) (cap := x.c) (cs0 := all) (b := b) news hT hi hzs hsz hl hnews h1 hm h63 hbytes q2 q3 g3 g2 (.inl g5) (fun g c1 cs1 u1 k1 k2 k3 k4 k5 k6 k7 k8 => ?_) hw hd hop hf hs' hx
 refine k ⟨some ⟨g, 0, none⟩, x.n + m, c1⟩ u1 ⟨by rw [List.length_append, q1, hl, Nat.add_mul], k1, k2, .inr ⟨g, cs1, rfl, k5, k3, by rw [k4, g4], ?_, k8 NU g6 hnu hnz⟩⟩ rfl (k7.toX g1) (fun a ha => ?_)
 ·rcases k6 with k6 | k6
  ·rw [k6]; exact g5
  have h8 := zyz g2
  omega
 injection ha with ha; subst ha
 rcases k6 with k6 | k6
 ·subst k6; exact .inl g1
 exact .inr k6
end
section
variable {w k lo lo' h b n c i j off : Nat} {tO tR : TypeId} {u u' u'' v : World} {x y z : Sl} {Rs : List Sl} {Ls : List (List RL)} {L : List RL} {M : List (List Rat)} {l : List Rat} {r : RL} {q : Rat} {K K' : Nat}
theorem MatQ.rest (hT : tO ≠ tR) (m : MatQ w tO tR lo u x Rs Ls) (hi : i < Ls.length) (e : ExtX (Rs.getD i sl0) u u') : MutQ 1 tO lo u' x (Rs.map Sl.v) ∧ ∀ j, j < Ls.length → j ≠ i → MutQ (w * 3) tR lo u' (Rs.getD j sl0) (rcs (Ls.getD j [])) :=
 ⟨m.out.extT (e.t (m.row i hi).mutL) hT, fun j hj hji => (m.row j hj).extS e (m.sep i j hi hj (Ne.symm hji))⟩
theorem MatQ.grown (hT : tO ≠ tR) (hT2 : tR ≠ tO) (m : MatQ w tO tR lo u x Rs Ls) (hi : i < Ls.length) (e : ExtX (Rs.getD i sl0) u u') (hy : MutQ (w * 3) tR lo u' y (rcs L)) (ho : ∀ a, y.a = some a → ((Rs.getD i sl0).a = some a ∨ u.heap.size ≤ a.block))
  (hout : MutQ 1 tO lo u'' x ((Rs.set i y).map Sl.v)) (e2 : ExtX x u' u'') : MatQ w tO tR lo u'' x (Rs.set i y) (Ls.set i L) := by
 obtain ⟨r1, r2⟩ := m.rest hT hi e
 have eT := e2.t r1.mutL
 have hir : i < Rs.length := by rw [m.len]; exact hi
 have hsep : ∀ j, j < Ls.length → j ≠ i → Sep (Rs.getD j sl0) y := fun j hj hji => (m.sep j i hj hi hji).step (m.row j hj).mutL ho
 refine ⟨hout, by rw [List.length_set, List.length_set]; exact m.len, fun j hj => ?_, fun a b ha hb hab => ?_⟩
 ·rw [List.length_set] at hj
  by_cases hij : i = j
  ·subst hij; rw [getD_set_same hj, getD_set_same hir]; exact hy.extT eT hT2
  rw [getD_set_other hij, getD_set_other hij]; exact (r2 j hj (Ne.symm hij)).extT eT hT2
 rw [List.length_set] at ha hb
 by_cases h1 : i = a
 ·subst h1
  rw [getD_set_same hir, getD_set_other hab]
  exact (hsep b hb (Ne.symm hab)).symm
 rw [getD_set_other h1]
 by_cases h2 : i = b
 ·subst h2; rw [getD_set_same hir]; exact hsep a ha (Ne.symm h1)
 rw [getD_set_other h2]; exact m.sep a b ha hb hab
end
end Go.Proofs.YtbolmkfphieogaaGreat
namespace Go.Proofs.YtbolmkfphieogaaGreat
namespace Nt
section
variable {a1 a2 b1 b2 c1 c2 d1 d2 : Rat}
def hl (a b c d : Rat) : Rat := lo (lo a b) (lo c d)
def hh (a b c d : Rat) : Rat := hi (hi a b) (hi c d)
def sql (a b : Rat) : Rat := if sgI a b = 0 then 0 else lo (a * a) (b * b)
def sqh (a b : Rat) : Rat := hi (a * a) (b * b)
end
end Nt
end Go.Proofs.YtbolmkfphieogaaGreat
namespace Go.Proofs.YtbolmkfphieogaaGreat.Nt
open Go.RowKit
open Pol
section
variable {l : List Rat} {x a b c : Rat} {i n D A B K : Nat} {q : Pol}
theorem lo_self (c : Rat) : lo c c = c := by unfold lo; split <;> rfl
theorem hi_self (c : Rat) : hi c c = c := by unfold hi; split <;> rfl
end
section
variable {l m W : List Rat} {x q : Rat} {i A B C : Nat}
def hp (q : Rat) (i : Nat) : Rat := (((q.den ^ (i - 1) : Nat) : Int) : Rat)
def hs (W : List Rat) (q : Rat) (i : Nat) : Rat := hp q i * evL (W.drop (W.length - i)) q
end
def fz (k : Nat) : Rat := (((k + 1 : Nat) : Rat) + 1 / ((k + 1 : Nat) : Rat)) / 2
end Go.Proofs.YtbolmkfphieogaaGreat.Nt
namespace Go.Proofs.YtbolmkfphieogaaGreat
open Go.RowKit
namespace Nt
def wq (z f : Int) : Rat := ((z : Int) : Rat) / ((p2i f : Int) : Rat)
end Nt
section
variable {P : Program} {ops : Array Oper} {w0 : Base} {u0 : World} {S : St} {u : World}
def exitsK (P : Program) (ops : Array Oper) (w0 : Base) (u0 : World) (K : List (Nat × List Tmp) → St → World → Prop) : List (Nat × List Tmp) → St → World → Prop
 | [], S, u => K [] S u
 | p :: F, S, u => K (p :: F) S u ∧ sym P ops w0 u0 false [opAt ops p] S u (exitsK P ops w0 u0 K F)
theorem zwo {K : List (Nat × List Tmp) → St → World → Prop} (hK : ∀ F, Mono (K F)) : ∀ F, Mono (exitsK P ops w0 u0 K F)
 | [] => hK []
 | p :: F => fun S u u' e h => ⟨hK _ S u u' e h.1, zwc (zwo hK F) S u u' e h.2⟩
theorem exitsK_now {K : List (Nat × List Tmp) → St → World → Prop} {F : List (Nat × List Tmp)} (h : exitsK P ops w0 u0 K F S u) : K F S u := by
 cases F with
 | nil => exact h
 | cons p F => exact h.1
theorem sym_app {K : St → World → Prop} (hK : Mono K) {seq : Bool} : ∀ (l1 l2 : List (Oper × List Tmp)) (S : St) (u : World), sym P ops w0 u0 seq l1 S u (fun S u => sym P ops w0 u0 seq l2 S u K) → sym P ops w0 u0 seq (l1 ++ l2) S u K
 | [], l2, S, u, h => h
 | e :: l1, l2, S, u, h => one_mono (w0 := w0) (u0 := u0) (fun S u h => sym_app hK l1 l2 S u h) (zwc (zwc hK)) (Ext.refl u) h
theorem sym_mono_k {K K' : St → World → Prop} {seq : Bool} : ∀ {l : List (Oper × List Tmp)} {S : St} {u : World}, (∀ S u, K S u → K' S u) → Mono K → sym P ops w0 u0 seq l S u K → sym P ops w0 u0 seq l S u K'
 | [], S, u, hk, _, h => hk S u h
 | e :: l, S, u, hk, hm, h => one_mono (w0 := w0) (u0 := u0) (fun S u h => sym_mono_k hk hm h) (zwc hm) (Ext.refl u) h
def backB (ops : Array Oper) : List (Nat × List Tmp) → Bool
 | [] => true
 | x :: l => l.all (fun y => !((ops.getD x.1 default).after.toList.any fun e => Region.binds .any e && e.on == y.1)) && backB ops l
theorem backB_spec : ∀ {l : List (Nat × List Tmp)}, backB ops l = true → l.Pairwise (fun x y => ((ops.getD x.1 default).after.toList.any fun e => Region.binds .any e && e.on == y.1) = false)
 | [], _ => List.Pairwise.nil
 | x :: l, h => by
  simp only [backB, Bool.and_eq_true] at h
  exact List.Pairwise.cons (fun y hy => by have := List.all_eq_true.1 h.1 y hy; simpa using this) (backB_spec h.2)
structure LeftX (ops : Array Oper) (M : List Nat) (L : List (Nat × List Tmp)) (listed : Array Bool) : Prop where
 nodup : (L.map (·.1)).Nodup
 back : L.Pairwise (fun x y => ((ops.getD x.1 default).after.toList.any fun e => Region.binds .any e && e.on == y.1) = false)
 size : listed.size = ops.size
 mem : ∀ i, i < ops.size → (listed.getD i true = false ↔ i ∈ L.map (·.1))
 lt : ∀ x ∈ L, x.1 < ops.size ∧ ∀ e ∈ (ops.getD x.1 default).after, Region.binds .any e = true → e.on ≠ x.1 ∧ e.on < ops.size
 mask : ∀ x ∈ L, M.getD x.1 0 = reachOf M (ops.getD x.1 default)
 closed : ∀ j, j < ops.size → j ∉ L.map (·.1) → ∀ x, (M.getD j 0).testBit x = true → x ∉ L.map (·.1)
theorem LeftX.ready_mem {M : List Nat} {L : List (Nat × List Tmp)} {listed : Array Bool} (h : LeftX ops M L listed) {i : Nat} (hi : i ∈ Region.ready .any ops listed) : i < ops.size ∧ i ∈ L.map (·.1) ∧ ∀ e ∈ (ops.getD i default).after, Region.binds .any e = true → e.on ∉ L.map (·.1) := by
 obtain ⟨h0, o, ho, hall⟩ := mem_ready.1 hi
 have hlt : i < ops.size := (Array.getElem?_eq_some_iff.1 ho).1
 have hm := (h.mem i hlt).1 h0
 refine ⟨hlt, hm, fun e he hb => ?_⟩
 rw [get_op hlt] at ho
 injection ho with ho
 obtain ⟨x, hx, hxi⟩ := List.mem_map.1 hm
 have hl := ((h.lt x hx).2 e (by rw [hxi]; exact he) hb).2
 have := hall e (by rw [← ho]; exact he) hb
 rw [listed_iff (by rw [h.size]; exact hl), h.mem e.on hl] at this
 exact this
theorem LeftX.head_ready {M : List Nat} {x : Nat × List Tmp} {L : List (Nat × List Tmp)} {listed : Array Bool} (h : LeftX ops M (x :: L) listed) : x.1 ∈ Region.ready .any ops listed := by
 obtain ⟨h1, h2⟩ := h.lt x (List.mem_cons_self ..)
 refine mem_ready.2 ⟨(h.mem x.1 h1).2 (by simp), _, get_op h1, fun e he hb => ?_⟩
 obtain ⟨h3, h4⟩ := h2 e he hb
 rw [listed_iff (by rw [h.size]; exact h4), h.mem e.on h4]
 intro hm
 obtain ⟨y, hy, hye⟩ := List.mem_map.1 hm
 rcases List.mem_cons.1 hy with rfl | hy
 ·exact h3 hye.symm
 have := (List.pairwise_cons.1 h.back).1 y hy
 have h5 : ((ops.getD x.1 default).after.toList.any fun e => Region.binds .any e && e.on == y.1) = true := List.any_eq_true.2 ⟨e, by simpa using he, by simp [hb, hye]⟩
 rw [h5] at this; cases this
theorem LeftX.out {M : List Nat} {L : List (Nat × List Tmp)} {listed : Array Bool} (h : LeftX ops M L listed) {x : Nat × List Tmp} (hx : x ∈ L) (hout : ∀ e ∈ (ops.getD x.1 default).after, Region.binds .any e = true → e.on ∉ L.map (·.1)) :
  ∀ j, (M.getD x.1 0).testBit j = true → j ∉ L.map (·.1) := by
 intro j hj
 rw [h.mask x hx] at hj
 rcases foldl_bit M j _ _ hj with h0 | ⟨e, he, hb, h1⟩
 ·simp at h0
 have he' : e ∈ (ops.getD x.1 default).after := by simpa using he
 have hn := hout e he' hb
 rcases h1 with rfl | h1
 ·exact hn
 exact h.closed e.on ((h.lt x hx).2 e he' hb).2 hn j h1
theorem LeftX.step {M : List Nat} {pre post : List (Nat × List Tmp)} {y : Nat × List Tmp} {listed : Array Bool} (hL : LeftX ops M (pre ++ y :: post) listed) (hro : ∀ j, (M.getD y.1 0).testBit j = true → j ∉ (pre ++ y :: post).map (·.1)) : LeftX ops M (pre ++ post) (listed.setIfInBounds y.1 true) := by
 have hsub : (pre ++ post).Sublist (pre ++ y :: post) := List.Sublist.append_left (List.sublist_cons_self _ _) _
 have hyn : y.1 ∉ (pre ++ post).map (·.1) := by
  have := hL.nodup
  rw [List.map_append, List.map_cons] at this
  have h2 := List.nodup_append.1 this
  have h3 := (List.nodup_cons.1 h2.2.1).1
  intro hm
  rw [List.map_append] at hm
  rcases List.mem_append.1 hm with hm | hm
  ·exact h2.2.2 y.1 hm y.1 (List.mem_cons_self ..) rfl
  exact h3 hm
 have hmem : ∀ j, j ≠ y.1 → (j ∈ (pre ++ post).map (·.1) ↔ j ∈ (pre ++ y :: post).map (·.1)) := fun j hj => by simp [hj]
 refine ⟨hL.nodup.sublist (hsub.map _), hL.back.sublist hsub, by simp [hL.size], fun j hj => ?_, fun x hx => hL.lt x (hsub.mem hx), fun x hx => hL.mask x (hsub.mem hx), fun j hj hjn x hx => ?_⟩
 ·by_cases e : j = y.1
  ·subst e
   constructor
   ·intro h
    simp [hL.size, hj] at h
   intro h; exact absurd h hyn
  rw [getD_set_ne true (Ne.symm e), hmem j e]
  exact hL.mem j hj
 intro hmx
 by_cases e : j = y.1
 ·subst e; exact hro x hx ((hsub.map _).mem hmx)
 exact hL.closed j hj (fun h => hjn ((hmem j e).2 h)) x hx ((hsub.map _).mem hmx)
theorem chainB_pair {M : List Nat} : ∀ {L : List (Nat × List Tmp)}, chainB M L = true → L.Pairwise (fun x y => (M.getD y.1 0).testBit x.1 = true)
 | [], _ => List.Pairwise.nil
 | x :: l, h => by
  simp only [chainB, Bool.and_eq_true, List.all_eq_true] at h
  exact List.Pairwise.cons h.1 (chainB_pair h.2)
theorem LeftX.toLeft {M : List Nat} {L : List (Nat × List Tmp)} {listed : Array Bool} (h : LeftX ops M L listed) (hc : chainB M L = true) : Left ops M L listed :=
 ⟨h.nodup, List.Pairwise.imp₂ (fun x y (h1 : (M.getD y.1 0).testBit x.1 = true) h2 => by simp only [pairOk, Bool.and_eq_true, Bool.or_eq_true, Bool.not_eq_true']; exact ⟨.inl h1, h2⟩) (chainB_pair hc) h.back, h.size, h.mem, h.lt, h.mask, h.closed⟩
theorem any_symE {M : List Nat} {T : List (Nat × List Tmp)} {y : Nat × List Tmp} {K : List (Nat × List Tmp) → St → World → Prop} {Q : Exit → Act → World → Prop} (hK : ∀ F, Mono (K F))
  (hQ : ∀ F S u, K F S u → ∀ B a w, Rep w0 u0 S B a w u → wpList P ops Q ((y :: (F ++ T)).map fun x => ops.getD x.1 default) a w) (hyT : ∀ t ∈ T, (M.getD t.1 0).testBit y.1 = true) :
  ∀ (fuel : Nat) (L F : List (Nat × List Tmp)) (listed : Array Bool) (S : St) (B : Tmp → Nat) (a : Act) (w u : World), L.length + F.length = fuel → chainB M (F ++ T) = true → (L ++ F).Pairwise (fun x y => pairOk ops M x y = true) → LeftX ops M (L ++ F ++ y :: T) listed → (∀ x ∈ L, (M.getD y.1 0).testBit x.1 = true) → (∀ x ∈ L ++ F, ∀ t ∈ T, (M.getD t.1 0).testBit x.1 = true) → Rep w0 u0 S B a w u →
   sym P ops w0 u0 false (L.map (opAt ops)) S u (exitsK P ops w0 u0 K F) → wpAny P .any ops Q (fuel + 1 + T.length) listed a w := by
 intro fuel
 induction fuel with
 | zero =>
  intro L F listed S B a w u hl hc hp hL hy hT hr hs
  obtain rfl := List.length_eq_zero_iff.1 (show L.length = 0 by omega)
  obtain rfl := List.length_eq_zero_iff.1 (show F.length = 0 by omega)
  have hcc : chainB M (y :: T) = true := by
   simp only [chainB, Bool.and_eq_true, List.all_eq_true]
   exact ⟨fun t ht => hyT t ht, by simpa using hc⟩
  rw [Nat.zero_add, Nat.add_comm]
  have h9 := hQ [] S u hs B a w hr
  exact any_chain (y :: T) listed a w ((show LeftX ops M (y :: T) listed from hL).toLeft hcc) hcc (by simpa using h9)
 | succ fuel ih =>
  intro L F listed S B a w u hl hc hp hL hy hT hr hs
  rw [show fuel + 1 + 1 + T.length = (fuel + 1 + T.length) + 1 by omega]
  refine ⟨fun e => ?_, fun i hi => ?_⟩
  ·cases hLF : L ++ F with
   | nil => have h8 := congrArg List.length hLF; rw [List.length_append] at h8; rw [h8] at hl; cases hl
   | cons x L' =>
    rw [hLF] at hL
    have := LeftX.head_ready (L := L' ++ y :: T) hL
    rw [e] at this
    cases this
  obtain ⟨hlt, hm, hout⟩ := hL.ready_mem hi
  obtain ⟨z, hz, rfl⟩ := List.mem_map.1 hm
  have hro := hL.out hz hout
  have key : ops[z.1]? = some (opAt ops z).1 := get_op hlt
  -- an operation of the first ones: what stands before it may stand behind it
  have front : ∀ (pre post F' : List (Nat × List Tmp)), L ++ F ++ y :: T = pre ++ z :: (post ++ F' ++ y :: T) → (pre ++ z :: post).Pairwise (fun x y => pairOk ops M x y = true) → (pre ++ post ++ F').Pairwise (fun x y => pairOk ops M x y = true) → pre.length + post.length + F'.length = fuel → chainB M (F' ++ T) = true → (∀ x ∈ pre ++ post, (M.getD y.1 0).testBit x.1 = true) → (∀ x ∈ pre ++ post ++ F', ∀ t ∈ T, (M.getD t.1 0).testBit x.1 = true) →
    sym P ops w0 u0 false ((pre ++ z :: post).map (opAt ops)) S u (exitsK P ops w0 u0 K F') → wpOp P ops Q z.1 (wpAny P .any ops Q (fuel + 1 + T.length) (listed.setIfInBounds z.1 true)) a w := by
   intro pre post F' he ac aa hfl hc' hy' hT' hs'
   have hsw : ∀ x ∈ pre.map (opAt ops), swapOk ops x (opAt ops z) = true := by
    intro x hx
    obtain ⟨x', hx', rfl⟩ := List.mem_map.1 hx
    have := (List.pairwise_append.1 ac).2.2 x' hx' z (List.mem_cons_self ..)
    simp only [pairOk, Bool.and_eq_true, Bool.or_eq_true] at this
    rcases this.1 with h1 | h1
    ·exact absurd (List.mem_map.2 ⟨x', by rw [he]; simp [hx'], rfl⟩) (hro x'.1 h1)
    exact h1
   rw [List.map_append, List.map_cons] at hs'
   have hone := bubble (zwo hK F') (pre.map (opAt ops)) S u hr.wf hsw hs'
   have hsound := one_sound (Q := Q) (zwc (zwo hK F')) hone (Ext.refl _) hr
   rw [he] at hL hro
   have hL' := LeftX.step hL hro
   have hfin : ∀ a' w', (∃ S' B' u'', Rep w0 u0 S' B' a' w' u'' ∧ (false = false → Ext u u'') ∧ sym P ops w0 u0 false (pre.map (opAt ops) ++ post.map (opAt ops)) S' u'' (exitsK P ops w0 u0 K F')) → wpAny P .any ops Q (fuel + 1 + T.length) (listed.setIfInBounds z.1 true) a' w' := by
    rintro a' w' ⟨S', B', u'', g1, _, g3⟩
    refine ih (pre ++ post) F' _ S' B' a' w' u'' (by rw [List.length_append]; exact hfl) hc' aa ?_ hy' hT' g1 ?_
    ·simpa [List.append_assoc] using hL'
    rw [List.map_append]; exact g3
   simp only [wpOp, key]
   split
   ·rename_i hw
    rw [if_pos hw] at hsound
    exact .inl (Oper.wp_mono hfin hsound)
   rename_i hw
   rw [if_neg hw] at hsound
   exact hfin _ _ hsound
  rcases List.mem_append.1 hz with hz1 | hz1
  ·rcases List.mem_append.1 hz1 with hzL | hzF
   ·obtain ⟨pre, post, rfl⟩ := List.append_of_mem hzL
    refine front pre post F (by simp [List.append_assoc]) (List.pairwise_append.1 hp).1 ?_ (by simp at hl ⊢; omega) hc (fun x hx => hy x (by simp at hx ⊢; rcases hx with h | h <;> simp [h])) (fun x hx => hT x (by simp at hx ⊢; rcases hx with h | h | h <;> simp [h])) hs
    refine hp.sublist ?_
    rw [List.append_assoc, List.append_assoc, List.cons_append]
    exact List.Sublist.append_left (List.sublist_cons_self _ _) _
   cases F with
   | nil => cases hzF
   | cons p F =>
    have hzp : z = p := by
     rcases List.mem_cons.1 hzF with h | h
     ·exact h
     rw [List.cons_append] at hc
     simp only [chainB, Bool.and_eq_true, List.all_eq_true] at hc
     exact absurd (List.mem_map.2 ⟨p, by simp, rfl⟩) (hro p.1 (hc.1 z (List.mem_append_left _ h)))
    subst hzp
    have ad : sym P ops w0 u0 false ((L ++ [z]).map (opAt ops)) S u (exitsK P ops w0 u0 K F) := by
     rw [List.map_append]
     exact sym_app (zwo hK F) _ _ S u (sym_mono_k (fun S u h => h.2) (zwo hK (z :: F)) hs)
    refine front L [] F (by simp [List.append_assoc]) ?_ ?_ (by simp at hl ⊢; omega) ?_ (fun x hx => hy x (by simpa using hx)) (fun x hx => hT x (by simp at hx ⊢; rcases hx with h | h <;> simp [h])) (by simpa using ad)
    ·refine hp.sublist ?_
     exact List.Sublist.append_left (by simp) _
    ·refine hp.sublist ?_
     rw [List.append_nil]
     exact List.Sublist.append_left (List.sublist_cons_self _ _) _
    rw [List.cons_append] at hc
    simp only [chainB, Bool.and_eq_true] at hc
    exact hc.2
  rcases List.mem_cons.1 hz1 with rfl | hzT
  ·have ab : L = [] := by
    cases L with
    | nil => rfl
    | cons x L => exact absurd (List.mem_map.2 ⟨x, by simp, rfl⟩) (hro x.1 (hy x (List.mem_cons_self ..)))
   subst ab
   have h9 := hQ F S u (exitsK_now hs) B a w hr
   rw [List.nil_append] at hL hro
   have hL' := LeftX.step hL hro
   have hch : ∀ a' w', wpList P ops Q ((F ++ T).map fun x => ops.getD x.1 default) a' w' → wpAny P .any ops Q (fuel + 1 + T.length) (listed.setIfInBounds z.1 true) a' w' := fun a' w' h => by
    have := any_chain (F ++ T) (listed.setIfInBounds z.1 true) a' w' (hL'.toLeft hc) hc h
    rw [List.length_append] at this
    rw [show fuel + 1 + T.length = F.length + T.length from by have h8 : F.length = fuel + 1 := (by simpa using hl); omega]
    exact this
   rw [List.map_cons] at h9
   unfold wpList at h9
   have h9 : if Region.wanted (opAt ops z).1 (yielded ops a.tmps) = true then (opAt ops z).1.wp P a w (wpList P ops Q ((F ++ T).map fun x => ops.getD x.1 default)) Q ∨ ((opAt ops z).1.asks P a w ∧ LetsOut Q) else wpList P ops Q ((F ++ T).map fun x => ops.getD x.1 default) (a.put (opAt ops z).1.dst undef) w := h9
   simp only [wpOp, key]
   split
   ·rename_i hw
    rw [if_pos hw] at h9
    exact h9.imp (Oper.wp_mono fun a w h => hch a w h) id
   rename_i hw
   rw [if_neg hw] at h9
   exact hch _ _ h9
  exact absurd (List.mem_map.2 ⟨y, by simp, rfl⟩) (hro y.1 (hyT z hzT))
end
section
variable {P : Program} {ops : Array Oper} {w0 : Base} {u0 : World} {S : St} {u : World}
theorem exitsK_last {K : List (Nat × List Tmp) → St → World → Prop} (h1 : K [] S u) : exitsK P ops w0 u0 K [] S u := h1
end
def AnyX (P : Program) (w0 : Base) (u0 : World) (ops : Array Oper) (listed : Array Bool) (n : Nat) (S : St) (u : World) (Q : MP) : Prop :=
 ∀ B a w u', Ext u u' → Rep w0 u0 S B a w u' → wpAny P .any ops (fun e a' w' => ∃ S' B' u'', Rep w0 u0 S' B' a' w' u'' ∧ Q.f e S' u'') n listed a w
section
variable {P : Program} {ops : Array Oper} {w0 : Base} {u0 : World} {S : St} {u : World} {Q : MP} {listed : Array Bool}
theorem sw_anyX {id : Nat} (hm : P.follows .mixedOrders = true) (n : Nat) (hn : ops.size = n) (h : AnyX P w0 u0 ops (Array.replicate n false) n S u Q) : SW P w0 u0 (.region id ops true) S u Q := by
 subst hn
 intro B a w u' e hr
 exact wp_region_any hm (h B a _ u' e hr.drew)
theorem takeX (i d n : Nat) (x : SV) (listed' : Array Bool) (k : AnyX P w0 u0 ops listed' n (S.set d x) u Q) (hp : ∀ c S u, ¬ Q.f (.panic c) S u := by intro c S u h; exact h) (hl : listed.setIfInBounds i true = listed' := by kernel_rfl)
  (hs : (Region.noSelect ops && Region.free .any ops listed i && (Region.ready .any ops listed).contains i && Nat.blt i ops.size && (ops.getD i default).dst == some d && (ops.getD i default).guard.isNone && x.at?.isNone && freeB S d && knownB S (ops.getD i default)) = true := by kernel_rfl) (hk : opK (ops.getD i default).op ≠ 2 := by decide)
  (hrun : ∀ B w, (execOp (rho S B) (ops.getD i default)).run P w = .ok (.value (x.conc B)) w := by intro _ _; kernel_rfl) : AnyX P w0 u0 ops listed (n + 1) S u Q := by
 intro B a w u' e hr
 simp only [Bool.and_eq_true, beq_iff_eq, Option.isNone_iff_eq_none] at hs
 obtain ⟨⟨⟨⟨⟨⟨⟨⟨h1, h2⟩, h3⟩, h4⟩, h5⟩, h6⟩, h7⟩, h8⟩, h9⟩ := hs
 have hi : ops[i]? = some (ops.getD i default) := get_op (Nat.le_of_ble_eq_true h4)
 subst hl
 refine wpAny_take (v := x.conc B) hi h1 h2 h3 (fun c a w h => ?_) (.inl ⟨zwf (S := S) h6 B a hr.regs, fun w => by rw [exec_rho hr.regs h9 hk]; exact hrun B w⟩) ?_
 ·obtain ⟨S', B', u'', _, g⟩ := h
  exact absurd g (hp c S' u'')
 refine k B _ w u' e ?_
 rw [h5]
 exact hr.set (d := some d) (x := some x) (v := x.conc B) (fun s hs => (zxx h5 h8 s (by rw [h5]; exact hs)).1) (fun z e => by injection e with e; rw [← e]) (fun z t e ht => by injection e with e; rw [← e, h7] at ht; cases ht)
def leftB (ops : Array Oper) (M : List Nat) (L : List (Nat × List Tmp)) (listed : Array Bool) : Bool :=
 nodupB (L.map (·.1)) && backB ops L && listed.size == ops.size && (List.range ops.size).all (fun i => (listed.getD i true == false) == (L.map (·.1)).contains i) &&
  L.all (fun x => Nat.blt x.1 ops.size && !((ops.getD x.1 default).after.toList.any fun e => Region.binds .any e && (e.on == x.1 || Nat.ble ops.size e.on)) && (M.getD x.1 0 == reachOf M (ops.getD x.1 default))) &&
  (List.range ops.size).all (fun j => (L.map (·.1)).contains j || (L.map (·.1)).all fun x => !(M.getD j 0).testBit x)
theorem leftB_spec {M : List Nat} {L : List (Nat × List Tmp)} (h : leftB ops M L listed = true) : LeftX ops M L listed := by
 simp only [leftB, Bool.and_eq_true, beq_iff_eq, List.all_eq_true, List.mem_range] at h
 obtain ⟨⟨⟨⟨⟨h1, h2⟩, h3⟩, h4⟩, h5⟩, h6⟩ := h
 refine ⟨nodupB_spec h1, backB_spec h2, h3, fun i hi => ?_, fun x hx => ?_, fun x hx => (h5 x hx).2, fun j hj hjn x hx hm => ?_⟩
 ·have := h4 i hi
  constructor
  ·intro h
   rw [h] at this
   exact List.contains_iff_mem.1 (by simpa using this.symm)
  intro h
  rw [List.contains_iff_mem.2 h] at this
  simpa using this
 ·obtain ⟨⟨k1, k2⟩, _⟩ := h5 x hx
  refine ⟨Nat.le_of_ble_eq_true k1, fun e he hb => ?_⟩
  simp only [Bool.not_eq_true', List.any_eq_false] at k2
  have := k2 e (by simpa using he)
  simp [hb] at this
  exact this
 have := h6 j hj
 rw [Bool.or_eq_true] at this
 rcases this with h9 | h9
 ·exact hjn (List.contains_iff_mem.1 h9)
 have := List.all_eq_true.1 h9 x hm
 rw [hx] at this; cases this
theorem restX (M : List Nat) (L F : List (Nat × List Tmp)) (y : Nat × List Tmp) (T : List (Nat × List Tmp)) {n : Nat}
  (hok : (leftB ops M (L ++ F ++ y :: T) listed && pairsOk ops M (L ++ F) && chainB M (F ++ T) && L.all (fun x => (M.getD y.1 0).testBit x.1) && (L ++ F).all (fun x => T.all fun t => (M.getD t.1 0).testBit x.1) && T.all (fun t => (M.getD t.1 0).testBit y.1) && Nat.beq n ((L.length + F.length) + 1 + T.length)) = true)
  (h : sym P ops w0 u0 false (L.map (opAt ops)) S u (exitsK P ops w0 u0 (fun F S' u' => sym P ops w0 u0 true ((y :: (F ++ T)).map fun x => (ops.getD x.1 default, [])) S' u' (Q.f .normal)) F)) : AnyX P w0 u0 ops listed n S u Q := by
 intro B a w u' e hr
 simp only [Bool.and_eq_true, List.all_eq_true] at hok
 obtain ⟨⟨⟨⟨⟨⟨g0, g1⟩, g2⟩, g3⟩, g4⟩, g5⟩, g6⟩ := hok
 have hK : ∀ F, Mono (fun S' u' => sym P ops w0 u0 true ((y :: (F ++ T)).map fun x => (ops.getD x.1 default, ([] : List Tmp))) S' u' (Q.f .normal)) := fun F => zwc (Q.mono _)
 rw [Nat.eq_of_beq_eq_true g6]
 refine any_symE hK (fun F S u'' h B a w hr => ?_) g5 (L.length + F.length) L F _ S B a _ u' rfl g2 (pairsOk_spec g1) (leftB_spec g0) g3 (fun x hx => g4 x hx) hr (zwc (zwo hK F) _ _ _ e h)
 have := sl_key (Q := fun e a' w' => ∃ S' B' u'', Rep w0 u0 S' B' a' w' u'' ∧ Q.f e S' u'') (K := Q.f .normal) (Q.mono _) [] (fun S u h B a w hr => by exact ⟨S, B, u, hr, h⟩) ((y :: (F ++ T)).map fun x => ops.getD x.1 default) S B a w u'' hr (by rw [List.map_map]; exact h)
 rw [List.append_nil] at this
 exact this
end
def Rows (k : Nat) (L : List (List Int)) : Prop := ∀ p ∈ L, p.length = k
def kcs (L : List (List Int)) : List Value := L.flatMap ics
def gi (L : List (List Int)) (i j : Nat) : Int := (L.getD i []).getD j 0
section
variable {u u' : World} {L M : List (List Int)} {p : List Int} {k n i j c b off : Nat} {x : Sl} {X : List Value} {a1 a2 a3 a4 a5 : Int}
theorem kcs_cons : kcs (p :: L) = ics p ++ kcs L := rfl
theorem Rows.tail (h : Rows k (p :: L)) : Rows k L := fun q hq => h q (List.mem_cons_of_mem _ hq)
theorem Rows.head (h : Rows k (p :: L)) : p.length = k := h p (List.mem_cons_self ..)
theorem kcs_len (h : Rows k L) : (kcs L).length = L.length * k := by
 induction L with
 | nil => simp [kcs]
 | cons p L ih => rw [kcs_cons, List.length_append, ih h.tail, zwi, h.head, List.length_cons, Nat.succ_mul, Nat.add_comm]
theorem Rows.get (h : Rows k L) (hi : i < L.length) : (L.getD i []).length = k := by
 rw [List.getD_eq_getElem?_getD, List.getElem?_eq_getElem hi]
 exact h _ (List.getElem_mem hi)
theorem rows_cons (hp : p.length = k) (h : Rows k L) : Rows k (p :: L) := fun q hq => by
 rcases List.mem_cons.1 hq with rfl | hq
 ·exact hp
 exact h q hq
theorem kcs_drop (h : Rows k L) : (kcs L).drop (n * k) = kcs (L.drop n) := by
 induction n generalizing L with
 | zero => simp
 | succ n ih =>
  cases L with
  | nil => simp [kcs]
  | cons p L => rw [kcs_cons, show (n + 1) * k = (ics p).length + n * k by rw [zwi, h.head, Nat.succ_mul, Nat.add_comm], List.drop_append, Nat.add_sub_cancel_left, ih h.tail, List.drop_of_length_le xq]; simp
theorem kcs_get (h : Rows k L) (hi : i < L.length) : ((kcs L).drop (i * k)).take k = ics (L.getD i []) := by
 have hg := h.get hi
 rw [kcs_drop h, List.drop_eq_getElem_cons hi, kcs_cons]
 have e : L[i] = L.getD i [] := by rw [List.getD_eq_getElem?_getD, List.getElem?_eq_getElem hi]; rfl
 rw [e, List.take_append_of_le_length (by rw [zwi]; omega), List.take_of_length_le (by rw [zwi]; omega)]
theorem ics_one : ∀ v ∈ ics p, v.oneCell' = true := fun v hv => by
 unfold ics at hv
 obtain ⟨z, _, rfl⟩ := List.mem_map.1 hv; rfl
def IrV (k : Nat) (u : World) (x : Sl) (L : List (List Int)) : Prop :=
 Rows k L ∧ x.n = L.length ∧ x.n ≤ x.c ∧ x.c ≤ maxLen ∧ (0 < x.n → ∃ b o, x.a = some ⟨b, o, none⟩ ∧ b < u.heap.size ∧ ∀ j, j < L.length * k → u.cell? ⟨b, o + j, none⟩ = (kcs L)[j]?)
theorem IrV.ext (h : IrV k u x L) (e : Ext u u') : IrV k u' x L := by
 obtain ⟨h0, h1, h2, h3, h4⟩ := h
 refine ⟨h0, h1, h2, h3, fun hp => ?_⟩
 obtain ⟨b, o, g1, g2, g3⟩ := h4 hp
 refine ⟨b, o, g1, Nat.lt_of_lt_of_le g2 e.size, fun j hj => ?_⟩
 have hk := g3 j hj
 have hj' : j < (kcs L).length := by rw [kcs_len h0]; exact hj
 rw [List.getElem?_eq_getElem hj'] at hk ⊢
 exact e.cell hk
theorem IrV.rows (h : IrV k u x L) : Rows k L := h.1
theorem IrV.len (h : IrV k u x L) : x.n = L.length := h.2.1
theorem ir_at (h : IrV k u x L) (hi : i < L.length) : ∃ b o, x.a = some ⟨b, o, none⟩ ∧ b < u.heap.size ∧ ∀ j, j < (ics (L.getD i [])).length → u.cell? ⟨b, o + i * k + j, none⟩ = (ics (L.getD i []))[j]? := by
 obtain ⟨h0, h1, h2, h3, h4⟩ := h
 obtain ⟨b, o, g1, g2, g3⟩ := h4 xq
 refine ⟨b, o, g1, g2, fun j hj => ?_⟩
 rw [zwi, h0.get hi] at hj
 have : (i + 1) * k ≤ L.length * k := Nat.mul_le_mul_right _ hi
 rw [Nat.succ_mul] at this
 rw [Nat.add_assoc, g3 (i * k + j) xq, ← kcs_get h0 hi, List.getElem?_take_of_lt hj, List.getElem?_drop]
theorem ir_data {cs : List Value} {t : TypeId} (h : u.heap[b]? = some (.cells cs.toArray t (0, 0))) (hR : Rows k L) (hc : cs.take (n * k) = kcs L) (hn : n = L.length) (hl : cs.length = c * k) (hnc : n ≤ c) (hm : c ≤ maxLen) : IrV k u ⟨some ⟨b, 0, none⟩, n, c⟩ L := by
 refine ⟨hR, hn, hnc, hm, fun _ => ⟨b, 0, rfl, zyz h, fun j hj => ?_⟩⟩
 rw [Nat.zero_add, cells_at h, ← hc, List.getElem?_take_of_lt (by rw [hn]; exact hj)]; simp
end
section
variable {P : Program} {ops : Array Oper} {w0 : Base} {u0 : World} {S : St} {u : World} {o : Oper} {p : List Tmp} {seq : Bool} {rest : List (Oper × List Tmp)} {K : St → World → Prop}
theorem run_shr {T : TypeId} {k yk : IntKind} {n s : Int} {x y : Operand} {w : World} (h0 : 0 ≤ s) (h1 : s ≤ k.bits) : (do eqGuard .shr T x y (.int k n) (.int yk s); binOp .shr T (.int k n) (.int yk s) : Sem Value).run P w = .ok (.int k (n / 2 ^ s.toNat)) w := by
 simp [eqGuard, binOp, shift_shr k yk n s h0 h1, go_sem]
theorem sy_shr (d : Tmp) {T T2 : TypeId} {x y : Operand} {k yk : IntKind} {n s : Int} (v : Int) (h0 : 0 ≤ s) (h1 : s ≤ k.bits) (hv : n / 2 ^ s.toNat = v) (kk : sym P ops w0 u0 seq rest (S.set d (.v (.int k v))) u K) (hw : Wants ops o S := by exact zwf xj) (hd : o.dst = some d := by kernel_rfl) (hop : o.op = .binOp .shr T x y T2 := by rfl) (hf : freeB S d = true := by kernel_rfl)
  (hx : evO S x = some (.v (.int k n)) := by rfl) (hy : evO S y = some (.v (.int yk s)) := by rfl) : sym P ops w0 u0 seq ((o, p) :: rest) S u K := by
 subst hv
 refine .inl ⟨by rw [hop]; exact (by decide : (0 : Nat) ≠ 2), .set (.v (.int k (n / 2 ^ s.toNat))), ⟨zxx hd hf, .inl ⟨(fun t ht => by cases ht), fun B a w u' hr he hdt => ⟨hw B a hr, ?_⟩⟩⟩, ?_⟩
 ·have e1 : (execOp a.eval o).run P w = (do pure (Next.value (← (do eqGuard .shr T x y (a.eval x) (a.eval y); binOp .shr T (a.eval x) (a.eval y)))) : Sem Next).run P w := by unfold execOp; rw [hop]
  rw [e1, ev_eval hr hx, ev_eval hr hy]
  exact run_val (run_shr h0 h1)
 show sym P ops w0 u0 seq rest (S.put o.dst (some _)) u K
 rw [hd]; exact kk
end
namespace Nt
theorem shl_one9 {n : Int} (h0 : 0 ≤ n) (h1 : n ≤ 62) : IntKind.i64.wrap (1 * 2 ^ n.toNat) = Nt.p2i n := by
 have h2 : Nt.p2i n ≤ 4611686018427387904 := Nt.zwd (b := 62) h1
 have h3 := Nt.zxo n
 rw [Int.one_mul]
 exact IntWalk.i64_in _ (by unfold Nt.p2i at *; omega)
theorem bits_mod (n : Int) (k : Nat) (hk : k ≤ 62) : bits .and .i64 n (2 ^ k - 1) = n % 2 ^ k := by
 have hp : 0 < 2 ^ k := Nat.two_pow_pos k
 have hle : 2 ^ k ≤ 2 ^ 62 := Nat.pow_le_pow_right xw hk
 have hm : (BitVec.ofInt 64 (2 ^ k - 1)).toNat = 2 ^ k - 1 := by
  have e : ((2 : Int) ^ k - 1) = ((2 ^ k - 1 : Nat) : Int) := by rw [Int.natCast_sub hp]; simp
  rw [e, BitVec.ofInt_natCast, BitVec.toNat_ofNat]
  exact Nat.mod_eq_of_lt xq
 have key : (BitVec.ofInt 64 n &&& BitVec.ofInt 64 (2 ^ k - 1)).toNat = (n % ((2 ^ 64 : Nat) : Int)).toNat % 2 ^ k := by
  rw [BitVec.toNat_and, BitVec.toNat_ofInt, hm, Nat.and_two_pow_sub_one_eq_mod]
 show IntKind.i64.wrap ((BitVec.ofInt 64 n &&& BitVec.ofInt 64 (2 ^ k - 1)).toNat : Nat) = n % 2 ^ k
 rw [key]
 have hd : ((2 ^ k : Nat) : Int) ∣ ((2 ^ 64 : Nat) : Int) := Int.natCast_dvd_natCast.2 (Nat.pow_dvd_pow 2 xq)
 have e1 : (((n % ((2 ^ 64 : Nat) : Int)).toNat % 2 ^ k : Nat) : Int) = n % 2 ^ k := by
  rw [Int.natCast_emod, Int.toNat_of_nonneg (Int.emod_nonneg _ xw), Int.emod_emod_of_dvd _ hd]; simp
 have hlt : (n % ((2 ^ 64 : Nat) : Int)).toNat % 2 ^ k < 2 ^ k := Nat.mod_lt _ hp
 rw [IntWalk.i64_in _ xq, e1]
theorem bits_p2 {n b : Int} (h0 : 0 ≤ b) (h1 : b ≤ 62) : bits .and .i64 n (p2i b - 1) = n % p2i b := bits_mod n b.toNat xq
theorem bits_1 (n : Int) : bits .and .i64 n 1 = n % 2 := bits_mod n 1 xw
def shiftW (v n r : Int) : Int := if n = 0 then v else if r = 2 then v / p2i n + v / p2i (n - 1) % 2 else if r = 3 ∧ v < 0 ∧ v % p2i n ≠ 0 then v / p2i n + 1 else v / p2i n
def wrapW (b v : Int) : Int := if p2i (b - 1) ≤ v % p2i b then v % p2i b - p2i b else v % p2i b
theorem div_bd {v p : Int} (hp : 0 < p) : -v.natAbs ≤ v / p ∧ v / p ≤ v.natAbs := by
 constructor
 ·rw [Int.le_ediv_iff_mul_le hp]
  have : (-(v.natAbs : Int)) * p ≤ (-(v.natAbs : Int)) * 1 := Int.mul_le_mul_of_nonpos_left xq xq
  omega
 by_cases h : 0 ≤ v
 ·have := Int.ediv_le_self p h; omega
 have := Int.ediv_neg_of_neg_of_pos (show v < 0 by omega) hp; omega
end Nt
namespace Nt
def shF (s : List Int) (sg : Int) (l : List Int) : List Int :=
 if s.getD 3 0 = -1 then (l.set (s.getD 0 0).toNat (l.getD (s.getD 1 0).toNat 0)).set (s.getD 1 0).toNat (l.getD (s.getD 0 0).toNat 0)
 else if s.getD 3 0 = -2 then l.set (s.getD 0 0).toNat (wrapW 32 (-(l.getD (s.getD 0 0).toNat 0)))
 else l.set (s.getD 0 0).toNat (wrapW 32 (l.getD (s.getD 0 0).toNat 0 + sg * shiftW (s.getD 2 0 * l.getD (s.getD 1 0).toNat 0) (s.getD 3 0) 2))
def shFs (S : List (List Int)) (l : List Int) : List Int := S.foldl (fun l s => shF s 1 l) l
def shBs (S : List (List Int)) (l : List Int) : List Int := S.foldr (fun s l => shF s (-1) l) l
def shOK (n : Int) (s : List Int) : Prop := 0 ≤ s.getD 0 0 ∧ s.getD 0 0 < n ∧ 0 ≤ s.getD 1 0 ∧ s.getD 1 0 < n ∧ -2 ≤ s.getD 3 0 ∧ s.getD 3 0 ≤ 20 ∧ (s.getD 0 0 = s.getD 1 0 ↔ s.getD 3 0 = -2) ∧ (s.getD 3 0 < 0 → s.getD 2 0 = 0) ∧ -2097152 ≤ s.getD 2 0 ∧ s.getD 2 0 ≤ 2097152
instance (n : Int) (s : List Int) : Decidable (shOK n s) := by unfold shOK; infer_instance
def W32 (l : List Int) : Prop := ∀ i, i < l.length → -2147483648 ≤ l.getD i 0 ∧ l.getD i 0 ≤ 2147483647
section
variable {l m : List Int} {s : List Int} {S : List (List Int)} {n : Int} {i j : Nat} {v c sg : Int}
theorem wrap32 (v : Int) : wrapW 32 v = (v + 2147483648) % 4294967296 - 2147483648 := by
 unfold wrapW
 have e1 : p2i (32 - 1) = 2147483648 := by decide
 have e2 : p2i 32 = 4294967296 := by decide
 rw [e1, e2]
 split <;> omega
theorem wrap32_bd (v : Int) : -2147483648 ≤ wrapW 32 v ∧ wrapW 32 v ≤ 2147483647 := by rw [wrap32]; omega
theorem wrap32_id (h : -2147483648 ≤ v ∧ v ≤ 2147483647) : wrapW 32 v = v := by rw [wrap32]; omega
theorem getD_set_eq (h : i < l.length) : (l.set i v).getD i 0 = v := by simp [List.getD_eq_getElem?_getD, h]
theorem getD_set_ne2 (h : i ≠ j) : (l.set i v).getD j 0 = l.getD j 0 := by simp [List.getD_eq_getElem?_getD, h]
theorem shF_len : (shF s sg l).length = l.length := by
 unfold shF
 split
 ·simp
 split <;> simp
theorem W32.set (h : W32 l) (hv : -2147483648 ≤ v ∧ v ≤ 2147483647) : W32 (l.set i v) := fun k hk => by
 rw [List.length_set] at hk
 by_cases e : i = k
 ·subst e; rw [getD_set_eq hk]; exact hv
 rw [getD_set_ne2 e]; exact h k hk
theorem W32.get (h : W32 l) (i : Nat) : -2147483648 ≤ l.getD i 0 ∧ l.getD i 0 ≤ 2147483647 := by
 rcases Nat.lt_or_ge i l.length with h1 | h1
 ·exact h i h1
 rw [List.getD_eq_getElem?_getD, List.getElem?_eq_none h1]; decide
theorem shF_w32 (h : W32 l) : W32 (shF s sg l) := by
 unfold shF
 split
 ·exact (h.set (h.get _)).set (h.get _)
 split
 ·exact h.set (wrap32_bd _)
 exact h.set (wrap32_bd _)
theorem shFs_len : (shFs S l).length = l.length := by
 unfold shFs
 induction S generalizing l with
 | nil => rfl
 | cons s S ih => rw [List.foldl_cons, ih, shF_len]
theorem shFs_w32 (h : W32 l) : W32 (shFs S l) := by
 unfold shFs
 induction S generalizing l with
 | nil => exact h
 | cons s S ih => rw [List.foldl_cons]; exact ih (shF_w32 h)
theorem shBs_len : (shBs S l).length = l.length := by
 unfold shBs
 induction S with
 | nil => rfl
 | cons s S ih => rw [List.foldr_cons, shF_len, ih]
end
end Nt
section
variable {L : List (List Int)} {p l : List Int} {X cs : List Value} {i n c b : Nat} {u u' : World} {x : Sl} {z : Int}
theorem row_eq4 (h : p.length = 4) : p = [p.getD 0 0, p.getD 1 0, p.getD 2 0, p.getD 3 0] := by
 match p, h with
 | [a, b, c, d], _ => rfl
theorem ics4 (h : Rows 4 L) (hi : i < L.length) : ics (L.getD i []) = [.int .i64 (gi L i 0), .int .i64 (gi L i 1), .int .i64 (gi L i 2), .int .i64 (gi L i 3)] := by rw [row_eq4 (h.get hi)]; rfl
theorem ir_at4 (h : IrV 4 u x L) (hi : i < L.length) : ∃ b o, x.a = some ⟨b, o, none⟩ ∧ ∀ j, j < [Value.int .i64 (gi L i 0), .int .i64 (gi L i 1), .int .i64 (gi L i 2), .int .i64 (gi L i 3)].length → u.cell? ⟨b, o + i * 4 + j, none⟩ = [Value.int .i64 (gi L i 0), .int .i64 (gi L i 1), .int .i64 (gi L i 2), .int .i64 (gi L i 3)][j]? := by
 obtain ⟨b, o, h1, h2, h3⟩ := ir_at h hi
 rw [ics4 h.rows hi] at h3
 exact ⟨b, o, h1, h3⟩
theorem row4 (h : Rows 4 L) (hi : i < L.length) : L.getD i [] = [gi L i 0, gi L i 1, gi L i 2, gi L i 3] := row_eq4 (h.get hi)
theorem ints_dataX {t : TypeId} {m : List Int} (h : u.heap[b]? = some (.cells (ics l ++ X).toArray t (0, 0))) (hl : l.length = n) (hX : (ics m ++ X).length = c) (hn : n ≤ c) (hc : c ≤ maxLen) (hm : m.length = l.length := by first | rfl | (simp [Nt.shFs_len, Nt.shBs_len]; done)) : SlR .i64 u (some ⟨b, 0, none⟩) n c l := by
 refine ints_data h ?_ ?_ hn hc
 ·rw [List.take_append_of_le_length (by rw [zwi]; omega), List.take_of_length_le (by rw [zwi]; omega)]; rfl
 rw [List.length_append, zwi, ← hm, ← zwi m, ← List.length_append]; exact hX
theorem part_intsX (hi : i < l.length) {off : Nat} (ho : off = i * 1) : PartIs (ics l ++ X) off false 1 (.v (.int .i64 (l.getD i 0))) := by
 subst ho
 refine ⟨_, ?_, rfl⟩
 rw [Nat.mul_one, List.getElem?_append_left (by rw [zwi]; exact hi)]
 exact ics_at hi
theorem setL_intsX (hi : i < l.length) {off : Nat} (ho : off = i * 1) : setL (ics l ++ X) off (Value.int .i64 z).cells.toList = ics (l.set i z) ++ X := by
 subst ho
 rw [Nat.mul_one]
 have := setL_cons (cs := ics l ++ X) (off := i) (v := .int .i64 z) (vs := []) (by rw [List.length_append, zwi]; omega)
 rw [setL_nil] at this
 rw [← ics_set, ← List.set_append_left (h := by rw [zwi]; exact hi)]
 exact this.symm
end
namespace Nt
section
variable {l : List Int} {s : List Int} {t f : Nat} {cf sh sg x n : Int}
theorem shF_x (h : sh = -1) : shF [(t : Int), (f : Int), cf, sh] sg l = (l.set t (l.getD f 0)).set f (l.getD t 0) := by
 subst h; rfl
theorem shF_n (h : sh = -2) : shF [(t : Int), (f : Int), cf, sh] sg l = l.set t (wrapW 32 (-(l.getD t 0))) := by
 subst h; rfl
theorem shF_s (h1 : ¬ sh = -1) (h2 : ¬ sh = -2) : shF [(t : Int), (f : Int), cf, sh] sg l = l.set t (wrapW 32 (l.getD t 0 + sg * shiftW (cf * l.getD f 0) sh 2)) := by
 unfold shF
 rw [if_neg (show ¬ [(t : Int), (f : Int), cf, sh].getD 3 0 = -1 from h1), if_neg (show ¬ [(t : Int), (f : Int), cf, sh].getD 3 0 = -2 from h2)]
 rfl
theorem sh_mul {a b A B : Int} (h1 : -A ≤ a ∧ a ≤ A) (h2 : -B ≤ b ∧ b ≤ B) (hA : 0 ≤ A) : -(A * B) ≤ a * b ∧ a * b ≤ A * B := by
 have k1 : 0 ≤ (A - a) * (B + b) := Int.mul_nonneg xq xq
 have k2 : 0 ≤ (A + a) * (B - b) := Int.mul_nonneg xq xq
 have k3 : 0 ≤ (A - a) * (B - b) := Int.mul_nonneg xq xq
 have k4 : 0 ≤ (A + a) * (B + b) := Int.mul_nonneg xq xq
 constructor <;> grind
theorem shift_bd2 (v n : Int) : -(v.natAbs : Int) - 1 ≤ shiftW v n 2 ∧ shiftW v n 2 ≤ v.natAbs + 1 := by
 unfold shiftW
 split
 ·omega
 rw [if_pos rfl]
 have h1 := Nt.div_bd (v := v) (zxo n)
 have h2 := Int.emod_nonneg (v / p2i (n - 1)) (show (2 : Int) ≠ 0 by decide)
 have h3 := Int.emod_lt_of_pos (v / p2i (n - 1)) (show (0 : Int) < 2 by decide)
 omega
theorem sg_bd {B : Int} (h : sg = 1 ∨ sg = -1) (hx : -B ≤ x ∧ x ≤ B) : -B ≤ sg * x ∧ sg * x ≤ B := by
 rcases h with rfl | rfl
 ·rw [Int.one_mul]; exact hx
 rw [Int.neg_mul, Int.one_mul]; omega
theorem shOK_mk (h : shOK n [(t : Int), (f : Int), cf, sh]) : (t : Int) < n ∧ (f : Int) < n ∧ -2 ≤ sh ∧ sh ≤ 20 ∧ -2097152 ≤ cf ∧ cf ≤ 2097152 ∧ ((t : Int) = f ↔ sh = -2) ∧ (sh < 0 → cf = 0) := by
 obtain ⟨h1, h2, h3, h4, h5, h6, h7, h8, h9, h10⟩ := h
 exact ⟨h2, h4, h5, h6, h9, h10, h7, h8⟩
def shV (n : Int) (S : List (List Int)) : Prop := 1 ≤ n ∧ n ≤ 64 ∧ S.length ≤ 64 ∧ ∀ i, i < S.length → shOK n (S.getD i [])
instance (n : Int) (S : List (List Int)) : Decidable (shV n S) := by unfold shV; infer_instance
instance (l : List Int) : Decidable (W32 l) := by unfold W32; infer_instance
def chkE (S : List (List Int)) (l : List Int) : Int := if shV (l.length : Int) S then (if W32 l then 0 else 17) else 2
def fwdL (S : List (List Int)) (l : List Int) : List Int := if chkE S l = 0 then shFs S l else []
theorem chk_bad {S : List (List Int)} (h : ¬ shV (l.length : Int) S) : chkE S l = 2 := if_neg h
theorem chk_not {S : List (List Int)} (h : shV (l.length : Int) S) (h2 : ¬ W32 l) : chkE S l = 17 := by unfold chkE; rw [if_pos h, if_neg h2]
theorem chk_ok {S : List (List Int)} (h : shV (l.length : Int) S) (h2 : W32 l) : chkE S l = 0 := by unfold chkE; rw [if_pos h, if_pos h2]
theorem chk_0 {S : List (List Int)} (h : chkE S l = 0) : shV (l.length : Int) S ∧ W32 l := by
 unfold chkE at h
 split at h
 ·rename_i h1
  split at h
  ·rename_i h2; exact ⟨h1, h2⟩
  exact absurd h xw
 exact absurd h xw
theorem ne_pair (a b c e : Int) : (!((a == b) == (c == e))) = decide (¬ (a = b ↔ c = e)) := by
 rw [show (a == b) = decide (a = b) from rfl, show (c == e) = decide (c = e) from rfl]
 by_cases h1 : a = b <;> by_cases h2 : c = e <;> simp [h1, h2]
theorem bnot_f {b : Bool} (h : (!b) = false) : b = true := by cases b; cases h; rfl
theorem wrap_ne (v : Int) : (v != wrapW 32 v) = !(decide (-2147483648 ≤ v ∧ v ≤ 2147483647)) := by
 by_cases h : -2147483648 ≤ v ∧ v ≤ 2147483647
 ·rw [wrap32_id h, decide_eq_true h]; simp
 rw [decide_eq_false h]
 have := wrap32_bd v
 simp only [Bool.not_false, bne_iff_ne]
 omega
theorem W32.mem (h : W32 l) : ∀ z ∈ l, -9223372036854775808 ≤ z ∧ z ≤ 9223372036854775807 := fun z hz => by
 obtain ⟨i, hi, rfl⟩ := List.mem_iff_getElem.1 hz
 have := h i hi
 rw [List.getD_eq_getElem?_getD, List.getElem?_eq_getElem hi] at this
 have e : (some l[i]).getD 0 = l[i] := rfl
 rw [e] at this
 omega
theorem fwd_mem {S : List (List Int)} : ∀ z ∈ fwdL S l, -9223372036854775808 ≤ z ∧ z ≤ 9223372036854775807 := by
 unfold fwdL
 split
 ·rename_i h; exact W32.mem (shFs_w32 (chk_0 h).2)
 intro z hz; cases hz
theorem shFs_snoc (S : List (List Int)) (i : Nat) (hi : i < S.length) (l : List Int) : shFs (S.take (i + 1)) l = shF (S.getD i []) 1 (shFs (S.take i) l) := by
 unfold shFs
 rw [List.take_add_one, List.foldl_append, List.getElem?_eq_getElem hi, List.getD_eq_getElem?_getD, List.getElem?_eq_getElem hi]
 rfl
end
end Nt
end Go.Proofs.YtbolmkfphieogaaGreat
namespace Go.Proofs.YtbolmkfphieogaaGreat
namespace Nt
def up (M : Nat → Nat → Rat) (k : Nat) (v : Nat → Rat) : Nat → Nat → Rat := fun r => if r = k then v else M r
end Nt
open Go.RowKit
theorem ty3 : TyIs Tryz.prog 3 false 1 := fun w => ⟨by kernel_rfl, by kernel_rfl⟩
theorem ty4 : TyIs Tryz.prog 4 false 1 := fun w => ⟨by kernel_rfl, by kernel_rfl⟩
theorem ty22 : TyIs Tryz.prog 22 false 1 := fun w => ⟨by kernel_rfl, by kernel_rfl⟩
theorem ty24 : TyIs Tryz.prog 24 true 2 := fun w => ⟨by kernel_rfl, by kernel_rfl⟩
theorem ty26 : TyIs Tryz.prog 26 true 3 := fun w => ⟨by kernel_rfl, by kernel_rfl⟩
theorem ty32 : TyIs Tryz.prog 32 true 6 := fun w => ⟨by kernel_rfl, by kernel_rfl⟩
theorem ty84 : TyIs Tryz.prog 84 false 1 := fun w => ⟨by kernel_rfl, by kernel_rfl⟩
theorem ty90 : TyIs Tryz.prog 90 true 4 := fun w => ⟨by kernel_rfl, by kernel_rfl⟩
theorem ty104 : TyIs Tryz.prog 104 false 1 := fun w => ⟨by kernel_rfl, by kernel_rfl⟩
theorem ty147 : TyIs Tryz.prog 147 true 3 := fun w => ⟨by kernel_rfl, by kernel_rfl⟩
theorem ty149 : TyIs Tryz.prog 149 true 4 := fun w => ⟨by kernel_rfl, by kernel_rfl⟩
theorem ty160 : TyIs Tryz.prog 160 true 4 := fun w => ⟨by kernel_rfl, by kernel_rfl⟩
theorem ty180 : TyIs Tryz.prog 180 true 12 := fun w => ⟨by kernel_rfl, by kernel_rfl⟩
theorem ty183 : TyIs Tryz.prog 183 true 4 := fun w => ⟨by kernel_rfl, by kernel_rfl⟩
theorem ty200 : TyIs Tryz.prog 200 true 3 := fun w => ⟨by kernel_rfl, by kernel_rfl⟩
theorem sl22 : SlIs Tryz.prog 22 1 := ⟨104, false, by kernel_rfl, ty104⟩
theorem sl30 : SlIs Tryz.prog 30 1 := ⟨3, false, by kernel_rfl, ty3⟩
theorem sl64 : SlIs Tryz.prog 64 4 := ⟨90, true, by kernel_rfl, ty90⟩
theorem sl81 : SlIs Tryz.prog 81 1 := ⟨84, false, by kernel_rfl, ty84⟩
theorem sl84 : SlIs Tryz.prog 84 6 := ⟨32, true, by kernel_rfl, ty32⟩
theorem k_riTrim {u w : World} {i1 : IL} {zN : Int} {K : Nat} (d : Dat u w) (hi1 : IntV u i1 zN K) (hK : K ≤ 500000000) : Calls Tryz.prog 173 #[i1.v] w (Post u w fun v u' => ∃ i : IL, v = i.v ∧ IntN u' i zN K) := by
 obtain ⟨N, hN, hzN⟩ := hi1
 refine zzl (args := [i1.v]) Tryz.func173 rfl Tryz.ntmps173 (rs := [.cell 2 24]) Tryz.results173 (le_b rfl) (le_b rfl) d ?_
 refine sq9 (zzj 1 ⟨24, i1.cs⟩ (zzj 2 ⟨24, [.bool false, .slice none 0 0]⟩ (zzb (sq9 (zza 4 (.adr 1 1) (zzh 5 (.v (i1.m.v)) ty22 zzk (zzg 6 171 _ fun _ _ ac af => Post.mono (k_rnTrim af (hN.ext ac) xq) ?_)))))))
 rintro _ u14 g15 ⟨aa, rfl, ab⟩
 refine zza 3 (.v (aa.v)) (zzb (sq9 (zza 7 (.adr 1 0) (zzh 8 (zB i1.s) ty4 zzk ?_))))
 rcases Bool.eq_false_or_eq_true i1.s with hs17 | hs17
 ·refine zyp 9 (x := zB i1.s) (zB true) (by rw [hs17]) (zza 10 (.v (aa.v)) ?_ (hw := w1 2 true 9))
  refine zza 11 (zI aa.n) ?_ (hw := w1 2 true 9)
  refine zza 12 (zB (decide ((0 : Int) < (aa.n : Int)))) ?_ (hw := w1 2 true 9)
  refine zza 13 (zB (decide ((0 : Int) < (aa.n : Int)))) (zza 14 (.v (aa.v)) (zza 15 (.v (.agg #[.bool (decide ((0 : Int) < (aa.n : Int))), aa.v])) (zzi ⟨24, [.bool (decide ((0 : Int) < (aa.n : Int))), aa.v]⟩ ty24 ?_)))
  refine zzb (zzn (ret0 [.agg #[.bool (decide ((0 : Int) < (aa.n : Int))), aa.v]] ⟨zzq ty24 zze, trivial⟩ fun u18 ad => ?_))
  refine ⟨⟨_, aa⟩, rfl, ?_⟩
  rw [hzN, hs17]
  exact signed_int (s := true) (ab.ext ad)
 refine zyp 9 (x := zB i1.s) (zB false) (by rw [hs17]) (zzm 10 (uw 2 true false 9) (zzm 11 (uw 2 true false 9) (zzm 12 (uw 2 true false 9) (zza 13 (zB false) (zza 14 (.v (aa.v)) (zza 15 (.v (.agg #[.bool false, aa.v])) (zzi ⟨24, [.bool false, aa.v]⟩ ty24 ?_)))))))
 refine zzb (zzn (ret0 [.agg #[.bool false, aa.v]] ⟨zzq ty24 zze, trivial⟩ fun u20 ae => ?_))
 refine ⟨⟨_, aa⟩, rfl, ?_⟩
 rw [hzN, hs17]
 exact signed_int (s := false) (ab.ext ae)
theorem k_riSign {u w : World} {i1 : IL} {zN : Int} {K : Nat} (d : Dat u w) (hi1 : IntV u i1 zN K) (hK : K ≤ 500000000) : Calls Tryz.prog 98 #[i1.v] w (Post u w fun v u' => v = .int .i64 (Nt.cmpS zN 0)) := by
 refine zzl (args := [i1.v]) Tryz.func98 rfl Tryz.ntmps98 (rs := [.tmp 2]) Tryz.results98 (le_b rfl) (le_b rfl) d ?_
 refine sq9 (zzj 1 ⟨24, i1.cs⟩ (zza 2 (zI 0) (zzb (sq9 (zzh 3 (.v (i1.v)) ty24 zze (zzg 4 173 _ fun _ _ af ag => Post.mono (k_riTrim ag (hi1.ext af) xq) ?_))))))
 rintro _ u14 g15 ⟨ac, rfl, ae⟩
 refine zzi ⟨24, ac.cs⟩ ty24 ?_
 refine zzb (zzd (zzs (sq9 (zza 6 (.adr 1 1) (zzh 7 (.v (ac.m.v)) ty22 zzk (zza 8 (zI ac.m.n) (zza 9 (zB ((ac.m.n : Int) == 0)) (zza 5 (zB ((ac.m.n : Int) == 0)) (zzb (zzt (b := (ac.m.n : Int) == 0) xj (fun ab => ?_) (fun ab => ?_)))))))))))
 ·have ad : (ac.m.n : Int) = 0 := by simpa using ab
  refine sq9 (zza 2 (zI 0) (zzb (zzn (zyt (zzv (ret0 [.int .i64 0] ⟨zzp, trivial⟩ fun u18 e19 => ?_))))))
  show _ = _
  rw [sign_len ae, if_pos ab]
  rfl
 have ad : ¬ ((ac.m.n : Int) = 0) := by simpa using ab
 refine sq9 (zza 11 (.adr 1 0) (zzh 12 (zB ac.s) ty4 zzk (zza 10 (zB ac.s) (zzb (zzt (b := ac.s) xj (fun aa => ?_) (fun aa => ?_))))))
 ·replace aa : ac.s = true := aa
  refine sq9 (zza 2 (zI (-1)) (zzb (zzn (zyt (zzv (ret0 [.int .i64 (-1)] ⟨zzp, trivial⟩ fun u21 e22 => ?_))))))
  show _ = _
  rw [sign_len ae, if_neg (ne_true_of_eq_false ab), if_pos aa]
  rfl
 replace aa : ac.s = false := aa
 refine zzr (zzo ?_)
 refine sq9 (zza 2 (zI 1) (zzb (zzn (ret0 [.int .i64 1] ⟨zzp, trivial⟩ fun u23 e24 => ?_))))
 show _ = _
 rw [sign_len ae, if_neg (ne_true_of_eq_false ab), if_neg (ne_true_of_eq_false aa)]
 rfl
theorem k_riNeg {u w : World} {i1 : IL} {zN : Int} {K : Nat} (d : Dat u w) (hi1 : IntV u i1 zN K) (hK : K ≤ 500000000) : Calls Tryz.prog 108 #[i1.v] w (Post u w fun v u' => ∃ i : IL, v = i.v ∧ IntN u' i (-zN) K) := by
 refine zzl (args := [i1.v]) Tryz.func108 rfl Tryz.ntmps108 (rs := [.cell 2 24]) Tryz.results108 (le_b rfl) (le_b rfl) d ?_
 refine sq9 (zzj 1 ⟨24, i1.cs⟩ (zzj 2 ⟨24, [.bool false, .slice none 0 0]⟩ (zzb (sq9 (zzh 3 (.v (i1.v)) ty24 zze (zzg 4 173 _ fun _ _ ac af => Post.mono (k_riTrim af (hi1.ext ac) xq) ?_))))))
 rintro _ u14 g15 ⟨aa, rfl, ab⟩
 refine zzi ⟨24, aa.cs⟩ ty24 ?_
 refine zzb (sq9 (zza 5 (.adr 1 0) (zzh 6 (zB aa.s) ty4 zzk (zza 7 (zB (!aa.s)) ?_))))
 rcases Bool.eq_false_or_eq_true (!aa.s) with hs17 | hs17
 ·refine zyp 8 (x := zB (!aa.s)) (zB true) (by rw [hs17]) (zza 9 (.adr 1 1) ?_ (hw := w1 3 true 8))
  refine zzh 10 (.v (aa.m.v)) ty22 zzk ?_ (hw := w1 3 true 8)
  refine zza 11 (zI aa.m.n) ?_ (hw := w1 3 true 8)
  refine zza 12 (zB (decide ((0 : Int) < (aa.m.n : Int)))) ?_ (hw := w1 3 true 8)
  refine zza 13 (zB (decide ((0 : Int) < (aa.m.n : Int)))) (zza 14 (.adr 1 0) (zzi ⟨24, [.bool (decide ((0 : Int) < (aa.m.n : Int))), aa.m.v]⟩ ty4 ?_))
  refine zzb (sq9 (zzh 15 (.v (.agg #[.bool (decide ((0 : Int) < (aa.m.n : Int))), aa.m.v])) ty24 zze (zzi ⟨24, [.bool (decide ((0 : Int) < (aa.m.n : Int))), aa.m.v]⟩ ty24 ?_)))
  refine zzb (zzn (ret0 [.agg #[.bool (decide ((0 : Int) < (aa.m.n : Int))), aa.m.v]] ⟨zzq ty24 zze, trivial⟩ fun u18 ad => ?_))
  refine ⟨⟨_, aa.m⟩, rfl, ?_⟩
  have h9 := neg_int (ab.ext ad)
  rw [hs17] at h9
  exact h9
 refine zyp 8 (x := zB (!aa.s)) (zB false) (by rw [hs17]) (zzm 9 (uw 3 true false 8) (zzm 10 (uw 3 true false 8) (zzm 11 (uw 3 true false 8) (zzm 12 (uw 3 true false 8) (zza 13 (zB false) (zza 14 (.adr 1 0) (zzi ⟨24, [.bool false, aa.m.v]⟩ ty4 ?_)))))))
 refine zzb (sq9 (zzh 15 (.v (.agg #[.bool false, aa.m.v])) ty24 zze (zzi ⟨24, [.bool false, aa.m.v]⟩ ty24 ?_)))
 refine zzb (zzn (ret0 [.agg #[.bool false, aa.m.v]] ⟨zzq ty24 zze, trivial⟩ fun u20 ae => ?_))
 refine ⟨⟨_, aa.m⟩, rfl, ?_⟩
 have h9 := neg_int (ab.ext ae)
 rw [hs17] at h9
 exact h9
set_option maxHeartbeats 1000000 in
theorem k_riAdd {u w : World} {i1 : IL} {zN : Int} {K : Nat} {i2 : IL} {zM : Int} {L : Nat} (d : Dat u w) (hi1 : IntV u i1 zN K) (hi2 : IntV u i2 zM L) (hK : K ≤ 400000000) (hL : L ≤ 400000000) : Calls Tryz.prog 129 #[i1.v, i2.v] w (Post u w fun v u' => ∃ i : IL, v = i.v ∧ IntN u' i (zN + zM) (max K L + 1)) := by
 refine zzl (args := [i1.v, i2.v]) Tryz.func129 rfl Tryz.ntmps129 (rs := [.cell 4 24]) Tryz.results129 (le_b rfl) (le_b rfl) d ?_
 refine sq9 (zzj 2 ⟨24, i1.cs⟩ (zzj 3 ⟨24, i2.cs⟩ (zzj 4 ⟨24, [.bool false, .slice none 0 0]⟩ (zzb (zzd (zzy [0, 1, 0, 7, 15, 31] [(0, []), (2, []), (1, []), (3, []), (4, []), (5, [])] xj xj (zzh 5 (.v (i1.v)) ty24 zze (zzh 7 (.v (i2.v)) ty24 zze (zzg 6 173 _ fun _ _ aq aR => Post.mono (k_riTrim aR (hi1.ext aq) xq) ?_)))))))))
 rintro _ u14 aL ⟨aa, rfl, af⟩
 refine zzg 8 173 _ fun _ _ ah aM => Post.mono (k_riTrim aM (hi2.ext (aq.t (aL.t ah))) xq) ?_
 rintro _ u20 aj ⟨ab, rfl, ae⟩
 refine zzi ⟨24, aa.cs⟩ ty24 ?_
 refine zzi ⟨24, ab.cs⟩ ty24 ?_
 refine zzb (zzd (sq9 (zza 9 (.adr 2 0) (zzh 10 (zB aa.s) ty4 zzk (zza 11 (.adr 3 0) (zzh 12 (zB ab.s) ty4 zzk (zza 13 (zB (aa.s == ab.s)) (zzb (zzt (b := aa.s == ab.s) xj (fun ad => ?_) (fun ad => ?_))))))))))
 ·refine zzd (zzy [0, 1, 0, 4, 0, 16, 60, 127, 255, 511] [(0, []), (1, []), (2, []), (3, []), (4, []), (5, []), (6, []), (7, []), (8, []), (9, [])] xj xj (zza 14 (.adr 2 0) (zzh 15 (zB aa.s) ty4 zzk (zza 16 (.adr 2 1) (zzh 17 (.v (aa.m.v)) ty22 zzk (zza 18 (.adr 3 1) (zzh 19 (.v (ab.m.v)) ty22 zzk (zzg 20 164 _ fun _ _ an ay => Post.mono (k_rnAdd ay ((int_mag af).ext (ah.t (aj.t an))).raw ((int_mag ae).ext an).raw xq xq) ?_))))))))
  rintro _ u27 g28 ⟨ar, rfl, ax⟩
  refine zza 21 (.v (.agg #[.bool aa.s, ar.v])) (zzg 22 173 _ fun _ _ aF aB => Post.mono (k_riTrim aB (IntV.same (s := aa.s) (ax.ext aF).raw) xq) ?_)
  rintro _ u33 g34 ⟨ak, rfl, av⟩
  refine zzi ⟨24, ak.cs⟩ ty24 ?_
  refine zzb (zzn (zzv (ret0 [ak.v] ⟨zzq ty24 zze, trivial⟩ fun u36 aH => ?_)))
  refine ⟨ak, rfl, IntN.more (K := (max K L + 1)) ?_ xq⟩
  have h9 : zN + zM = (Nt.sg aa.s ((zN : Int).natAbs + (zM : Int).natAbs)) := by
   rw [Nt.sg_add1 _ _ ad]
   rw [← IntN.sg af, ← IntN.sg ae]
  rw [h9]
  exact (av.ext aH)
 refine zzr (zzo ?_)
 refine zzd (sq9 (zza 23 (.adr 2 1) (zzh 24 (.v (aa.m.v)) ty22 zzk (zza 25 (.adr 3 1) (zzh 26 (.v (ab.m.v)) ty22 zzk (zzg 27 166 _ fun _ _ ag aJ => Post.mono (k_rnCompare aJ ((int_mag af).ext (ah.t (aj.t ag))).raw ((int_mag ae).ext ag).raw xq xq) ?_))))))
 rintro _ u39 ai rfl
 refine zza 28 (zB (decide ((0 : Int) ≤ (Nt.cmpS ((zN : Int).natAbs) ((zM : Int).natAbs))))) (zzb (zzt (b := decide ((0 : Int) ≤ (Nt.cmpS ((zN : Int).natAbs) ((zM : Int).natAbs)))) xj (fun ac => ?_) (fun ac => ?_)))
 ·have qhb42 := of_decide_eq_true ac
  refine zzd (zzy [0, 1, 0, 4, 0, 16, 60, 127, 255, 511] [(0, []), (1, []), (2, []), (3, []), (4, []), (5, []), (6, []), (7, []), (8, []), (9, [])] xj xj (zza 29 (.adr 2 0) (zzh 30 (zB aa.s) ty4 zzk (zza 31 (.adr 2 1) (zzh 32 (.v (aa.m.v)) ty22 zzk (zza 33 (.adr 3 1) (zzh 34 (.v (ab.m.v)) ty22 zzk (zzg 35 198 _ fun _ _ ao aP => Post.mono (k_rnSub aP ((int_mag af).ext (ah.t (aj.t (ag.t (ai.t ao))))).raw ((int_mag ae).ext (ag.t (ai.t ao))).raw xq xq) ?_))))))))
  rintro _ u46 g47 ⟨aO, rfl, aG⟩
  refine zza 36 (.v (.agg #[.bool aa.s, aO.v])) (zzg 37 173 _ fun _ _ az au => Post.mono (k_riTrim au (IntV.same (s := aa.s) (aG.ext az).raw) xq) ?_)
  rintro _ u52 g53 ⟨am, rfl, aI⟩
  refine zzi ⟨24, am.cs⟩ ty24 ?_
  refine zzb (zzn (zzv (ret0 [am.v] ⟨zzq ty24 zze, trivial⟩ fun u55 aA => ?_)))
  refine ⟨am, rfl, IntN.more (K := K) ?_ xq⟩
  have h9 : zN + zM = (Nt.sg aa.s ((zN : Int).natAbs - (zM : Int).natAbs)) := by
   rw [Nt.sg_add4 _ _ ad ac]
   rw [← IntN.sg af, ← IntN.sg ae]
  rw [h9]
  exact (aI.ext aA)
 have qhb42 := of_decide_eq_false ac
 refine zzr (zzo ?_)
 refine zzd (zzy [0, 1, 0, 4, 0, 16, 60, 127, 255, 511] [(0, []), (1, []), (2, []), (3, []), (4, []), (5, []), (6, []), (7, []), (8, []), (9, [])] xj xj (zza 38 (.adr 3 0) (zzh 39 (zB ab.s) ty4 zzk (zza 40 (.adr 3 1) (zzh 41 (.v (ab.m.v)) ty22 zzk (zza 42 (.adr 2 1) (zzh 43 (.v (aa.m.v)) ty22 zzk (zzg 44 198 _ fun _ _ ap aN => Post.mono (k_rnSub aN ((int_mag ae).ext (ag.t (ai.t ap))).raw ((int_mag af).ext (ah.t (aj.t (ag.t (ai.t ap))))).raw xq xq) ?_))))))))
 rintro _ u60 g61 ⟨aC, rfl, aw⟩
 refine zza 45 (.v (.agg #[.bool ab.s, aC.v])) (zzg 46 173 _ fun _ _ aD aK => Post.mono (k_riTrim aK (IntV.same (s := ab.s) (aw.ext aD).raw) xq) ?_)
 rintro _ u66 g67 ⟨al, rfl, aQ⟩
 refine zzi ⟨24, al.cs⟩ ty24 ?_
 refine zzb (zzn (ret0 [al.v] ⟨zzq ty24 zze, trivial⟩ fun u69 aE => ?_))
 refine ⟨al, rfl, IntN.more (K := L) ?_ xq⟩
 have h9 : zN + zM = (Nt.sg ab.s ((zM : Int).natAbs - (zN : Int).natAbs)) := by
  rw [Nt.sg_add5 _ _ ad ac]
  rw [← IntN.sg af, ← IntN.sg ae]
 rw [h9]
 exact (aQ.ext aE)
theorem k_riSub {u w : World} {i1 : IL} {zN : Int} {K : Nat} {i2 : IL} {zM : Int} {L : Nat} (d : Dat u w) (hi1 : IntV u i1 zN K) (hi2 : IntV u i2 zM L) (hK : K ≤ 400000000) (hL : L ≤ 400000000) : Calls Tryz.prog 175 #[i1.v, i2.v] w (Post u w fun v u' => ∃ i : IL, v = i.v ∧ IntN u' i (zN - zM) (max K L + 1)) := by
 refine zzl (args := [i1.v, i2.v]) Tryz.func175 rfl Tryz.ntmps175 (rs := [.cell 4 24]) Tryz.results175 (le_b rfl) (le_b rfl) d ?_
 refine sq9 (zzj 2 ⟨24, i1.cs⟩ (zzj 3 ⟨24, i2.cs⟩ (zzj 4 ⟨24, [.bool false, .slice none 0 0]⟩ (zzb (zzd (zzy [0, 0, 2, 7, 15] [(0, []), (1, []), (2, []), (3, []), (4, [])] xj xj (zzh 5 (.v (i1.v)) ty24 zze (zzh 6 (.v (i2.v)) ty24 zze (zzg 7 108 _ fun _ _ ab ai => Post.mono (k_riNeg ai (hi2.ext ab) xq) ?_)))))))))
 rintro _ u14 ae ⟨i12, rfl, ah⟩
 refine zzg 8 129 _ fun _ _ ac af => Post.mono (k_riAdd af (hi1.ext (ab.t (ae.t ac))) (ah.ext ac).raw xq xq) ?_
 rintro _ u20 g21 ⟨aa, rfl, ad⟩
 refine zzi ⟨24, aa.cs⟩ ty24 ?_
 refine zzb (zzn (ret0 [aa.v] ⟨zzq ty24 zze, trivial⟩ fun u23 ag => ?_))
 refine ⟨aa, rfl, ?_⟩
 rw [Int.sub_eq_add_neg]
 exact (ad.ext ag)
theorem k_riCompare {u w : World} {i1 : IL} {zN : Int} {K : Nat} {i2 : IL} {zM : Int} {L : Nat} (d : Dat u w) (hi1 : IntV u i1 zN K) (hi2 : IntV u i2 zM L) (hK : K ≤ 400000000) (hL : L ≤ 400000000) : Calls Tryz.prog 97 #[i1.v, i2.v] w (Post u w fun v u' => v = .int .i64 (Nt.cmpS zN zM)) := by
 refine zzl (args := [i1.v, i2.v]) Tryz.func97 rfl Tryz.ntmps97 (rs := [.tmp 4]) Tryz.results97 (le_b rfl) (le_b rfl) d ?_
 refine sq9 (zzj 2 ⟨24, i1.cs⟩ (zzj 3 ⟨24, i2.cs⟩ (zza 4 (zI 0) (zzb (sq9 (zzh 5 (.v (i1.v)) ty24 zze (zzh 6 (.v (i2.v)) ty24 zze (zzg 7 175 _ fun _ _ aa ae => Post.mono (k_riSub ae (hi1.ext aa) (hi2.ext aa) xq xq) ?_))))))))
 rintro _ u14 g15 ⟨i12, rfl, ac⟩
 refine zzg 8 98 _ fun _ _ ad ab => Post.mono (k_riSign ab (ac.ext ad).raw xq) ?_
 rintro _ u18 g19 rfl
 refine zza 4 (zI (Nt.cmpS (zN - zM) 0)) (zzb (zzn (ret0 [.int .i64 (Nt.cmpS (zN - zM) 0)] ⟨zzp, trivial⟩ fun u21 e22 => ?_)))
 show Value.int _ _ = Value.int _ _
 rw [Nt.cmp_self_sub]
theorem k_riMul {u w : World} {i1 : IL} {zN : Int} {K : Nat} {i2 : IL} {zM : Int} {L : Nat} (d : Dat u w) (hi1 : IntV u i1 zN K) (hi2 : IntV u i2 zM L) (hK : K ≤ 250000000) (hL : L ≤ 250000000) : Calls Tryz.prog 94 #[i1.v, i2.v] w (Post u w fun v u' => ∃ i : IL, v = i.v ∧ IntN u' i (zN * zM) (K + L)) := by
 obtain ⟨N, hN, hzN⟩ := hi1
 obtain ⟨M, hM, hzM⟩ := hi2
 refine zzl (args := [i1.v, i2.v]) Tryz.func94 rfl Tryz.ntmps94 (rs := [.cell 4 24]) Tryz.results94 (le_b rfl) (le_b rfl) d ?_
 refine sq9 (zzj 2 ⟨24, i1.cs⟩ (zzj 3 ⟨24, i2.cs⟩ (zzj 4 ⟨24, [.bool false, .slice none 0 0]⟩ (zzb (zzd (zzy [0, 1, 0, 4, 15, 0, 32, 0, 128, 480, 1023, 2047, 4095] [(0, []), (1, []), (2, []), (3, []), (4, []), (5, []), (6, []), (7, []), (8, []), (9, []), (10, []), (11, []), (12, [])] xj xj (zza 5 (.adr 2 0) (zzh 6 (zB i1.s) ty4 zzk (zza 7 (.adr 3 0) (zzh 8 (zB i2.s) ty4 zzk (zza 9 (zB (!(i1.s == i2.s))) ?_)))))))))))
 refine zza 10 (.adr 2 1) (zzh 11 (.v (i1.m.v)) ty22 zzk (zza 12 (.adr 3 1) (zzh 13 (.v (i2.m.v)) ty22 zzk (zzg 14 174 _ fun _ _ ab ai => Post.mono (k_rnMul ai (hN.ext ab) (hM.ext ab) xq xq) ?_))))
 rintro _ u14 g15 ⟨ah, rfl, af⟩
 refine zza 15 (.v (.agg #[.bool (!(i1.s == i2.s)), ah.v])) (zzg 16 173 _ fun _ _ ag ad => Post.mono (k_riTrim ad (IntV.same (s := !(i1.s == i2.s)) (af.ext ag).raw) xq) ?_)
 rintro _ u20 g21 ⟨aa, rfl, ac⟩
 refine zzi ⟨24, aa.cs⟩ ty24 ?_
 refine zzb (zzn (ret0 [aa.v] ⟨zzq ty24 zze, trivial⟩ fun u23 ae => ?_))
 refine ⟨aa, rfl, IntN.more (K := (K + L)) ?_ xq⟩
 rw [hzN, hzM, ← Nt.sg_mul]
 exact (ac.ext ae)
theorem k_riGcd {u w : World} {i1 : IL} {zN : Int} {K : Nat} {i2 : IL} {zM : Int} {L : Nat} (d : Dat u w) (hi1 : IntV u i1 zN K) (hi2 : IntV u i2 zM L) (hK : K ≤ 500000000) (hL : L ≤ 500000000) : Calls Tryz.prog 172 #[i1.v, i2.v] w (Post u w fun v u' => ∃ i : IL, v = i.v ∧ IntN u' i (Nat.gcd zN.natAbs zM.natAbs : Int) (max K L)) := by
 refine zzl (args := [i1.v, i2.v]) Tryz.func172 rfl Tryz.ntmps172 (rs := [.cell 4 24]) Tryz.results172 (le_b rfl) (le_b rfl) d ?_
 refine sq9 (zzj 2 ⟨24, i1.cs⟩ (zzj 3 ⟨24, i2.cs⟩ (zzj 4 ⟨24, [.bool false, .slice none 0 0]⟩ (zzb (sq9 (zza 5 (.adr 2 1) (zzh 6 (.v (i1.m.v)) ty22 zzk (zza 7 (.adr 3 1) (zzh 8 (.v (i2.m.v)) ty22 zzk (zzg 9 225 _ fun _ _ ab ae => Post.mono (k_rnGcd ae ((IntV.abs hi1).ext ab) ((IntV.abs hi2).ext ab) xq xq) ?_))))))))))
 rintro _ u14 g15 ⟨aa, rfl, ac⟩
 refine zza 10 (.v (.agg #[.bool false, aa.v])) (zzi ⟨24, [.bool false, aa.v]⟩ ty24 ?_)
 refine zzb (zzn (ret0 [.agg #[.bool false, aa.v]] ⟨zzq ty24 zze, trivial⟩ fun u17 ad => ?_))
 exact ⟨(⟨false, aa⟩ : IL), rfl, (nat_intN (ac.ext ad))⟩
theorem k_riOf {u w : World} {z : Int} (d : Dat u w) (h0 : -9223372036854775808 ≤ z) (h1 : z ≤ 9223372036854775807) : Calls Tryz.prog 99 #[.int .i64 z] w (Post u w fun v u' => ∃ i : IL, v = i.v ∧ IntN u' i z 2) := by
 by_cases hneg : z < 0
 ·refine zzl (args := [.int .i64 z]) Tryz.func99 rfl Tryz.ntmps99 (rs := [.cell 2 24]) Tryz.results99 (le_b rfl) (le_b rfl) d ?_
  refine sq9 (zzj 2 ⟨24, [.bool false, .slice none 0 0]⟩ (zzb (zzd (sq9 (zza 4 (zI z) (zqB 5 (show (decide (z < 0)) = true from zq) (zzb (zyq xj (sq9 (zza 6 (zI z) (zqI 7 (show (IntKind.i64.wrap (z + 1)) = (z + 1) from (IntWalk.i64_in _ xq)) ?_)))))))))))
  refine zqI 8 (show (IntKind.i64.wrap (0 - (z + 1))) = (-z - 1) from xk) (zyp 9 (x := .v (.int .u64 (IntKind.u64.wrap (-z - 1)))) (.v (.int .u64 (-z - 1))) (by rw [show (IntKind.u64.wrap (-z - 1)) = (-z - 1) from (IntWalk.u64_in _ xq)]) (zyp 10 (x := .v (.int .u64 (IntKind.u64.wrap (-z - 1 + 1)))) (.v (.int .u64 (-z))) (by rw [show (IntKind.u64.wrap (-z - 1 + 1)) = (-z) from (by rw [IntWalk.u64_in _ xq]; omega)]) (zza 3 (.v (.int .u64 (-z))) (zzb (sq9 (zza 11 (.v (.int .u64 (-z))) (zyp 12 (x := .v (.int .u32 (IntKind.u32.wrap (-z)))) (.v (.int .u32 ((-z) % 4294967296))) (by rw [show (IntKind.u32.wrap (-z)) = ((-z) % 4294967296) from (IntKind.wrap_u32 _)]) (zza 13 (.v (.int .u64 (-z))) (zyp 14 (x := .v (.int .u64 (Int.fdiv (-z) (2 ^ 32)))) (.v (.int .u64 ((-z) / 4294967296))) (by rw [show (Int.fdiv (-z) (2 ^ 32)) = ((-z) / 4294967296) from (by rw [Int.fdiv_eq_ediv_of_nonneg _ xw]; rfl)]) (zyp 15 (x := .v (.int .u32 (IntKind.u32.wrap ((-z) / 4294967296)))) (.v (.int .u32 ((-z) / 4294967296))) (by rw [show (IntKind.u32.wrap ((-z) / 4294967296)) = ((-z) / 4294967296) from (IntWalk.u32_in _ xq)]) (zxw 16 ⟨104, [.int .u32 ((-z) % 4294967296), .int .u32 ((-z) / 4294967296)]⟩ 2 (fun ab al ah ae => ?_))))))))))))
  refine zza 17 (.v (.agg #[.bool true, .slice (some ⟨ab, 0, none⟩) 2 2])) (zzg 18 173 [.agg #[.bool true, .slice (some ⟨ab, 0, none⟩) 2 2]] ?_)
  intro w15 u15 ac ad
  have k20 := k_riTrim ad (IntV.same (s := true) ((two_data (N := z.natAbs) ae xq xq xq).ext ac)) xq
  with_reducible refine zPm k20 ?_
  rintro _ ai ak ⟨aa, rfl, ag⟩
  refine zzi ⟨24, aa.cs⟩ ty24 ?_
  refine zzb (zzn (zzv (ret0 [aa.v] ⟨zzq ty24 zze, trivial⟩ fun aj af => ?_)))
  refine ⟨aa, rfl, IntN.more (K := 2) ?_ xq⟩
  have e : z = Nt.sg true z.natAbs := by unfold Nt.sg; simp; omega
  rw [e]
  exact (ag.ext af)
 refine zzl (args := [.int .i64 z]) Tryz.func99 rfl Tryz.ntmps99 (rs := [.cell 2 24]) Tryz.results99 (le_b rfl) (le_b rfl) d ?_
 refine sq9 (zzj 2 ⟨24, [.bool false, .slice none 0 0]⟩ (zzb (zzd (sq9 (zza 4 (zI z) (zqB 5 (show (decide (z < 0)) = false from zq) (zzb (zyr xj (zzr (zzo ?_))))))))))
 refine sq9 (zza 19 (zI z) (zyp 20 (x := .v (.int .u32 (IntKind.u32.wrap z))) (.v (.int .u32 (z % 4294967296))) (by rw [show (IntKind.u32.wrap z) = (z % 4294967296) from (IntKind.wrap_u32 _)]) (zza 21 (zI z) (zyp 22 (x := .v (.int .u64 (IntKind.u64.wrap z))) (.v (.int .u64 (z))) (by rw [show (IntKind.u64.wrap z) = z from (IntWalk.u64_in _ xq)]) (zyp 23 (x := .v (.int .u64 (Int.fdiv z (2 ^ 32)))) (.v (.int .u64 (z / 4294967296))) (by rw [show (Int.fdiv z (2 ^ 32)) = (z / 4294967296) from (by rw [Int.fdiv_eq_ediv_of_nonneg _ xw]; rfl)]) (zyp 24 (x := .v (.int .u32 (IntKind.u32.wrap (z / 4294967296)))) (.v (.int .u32 (z / 4294967296))) (by rw [show (IntKind.u32.wrap (z / 4294967296)) = (z / 4294967296) from (IntWalk.u32_in _ xq)]) (zxw 25 ⟨104, [.int .u32 (z % 4294967296), .int .u32 (z / 4294967296)]⟩ 2 (fun ab al ah ae => ?_))))))))
 refine zza 26 (.v (.agg #[.bool false, .slice (some ⟨ab, 0, none⟩) 2 2])) (zzg 27 173 _ fun _ _ ac ad => Post.mono (k_riTrim ad (nat_int ((two_data (N := z.natAbs) ae xq xq xq).ext ac)) xq) ?_)
 rintro _ ai ak ⟨aa, rfl, ag⟩
 refine zzi ⟨24, aa.cs⟩ ty24 ?_
 refine zzb (zzn (ret0 [aa.v] ⟨zzq ty24 zze, trivial⟩ fun aj af => ?_))
 refine ⟨aa, rfl, IntN.more (K := 2) ?_ xq⟩
 have e : z = Nt.sg false z.natAbs := by unfold Nt.sg; simp; omega
 rw [e]
 exact (ag.ext af)
set_option maxHeartbeats 2000000 in
theorem k_riDiv {u w : World} {i1 : IL} {zN : Int} {K : Nat} {i2 : IL} {zM : Int} {L : Nat} (d : Dat u w) (hi1 : IntV u i1 zN K) (hi2 : IntV u i2 zM L) (hM0 : zM ≠ 0) (hK : K ≤ 400000000) (hL : L ≤ 400000000) : Calls Tryz.prog 167 #[i1.v, i2.v] w (Post u w fun v u' => ∃ i j : IL, v = .tuple #[i.v, j.v, .int .i64 0] ∧ IntN u' i (zN / zM) (K + 1) ∧ IntN u' j (zN % zM) L) := by
 have hM : 0 < zM.natAbs := Int.natAbs_pos.2 hM0
 have hL1 : 1 ≤ L := by have h2 := hi2.size; have h3 := Nt.dl_mono (x := zM.natAbs) (y := 1) xq; rw [Nt.dl_one] at h3; omega
 refine zzl (args := [i1.v, i2.v]) Tryz.func167 rfl Tryz.ntmps167 (rs := [.cell 4 24, .cell 5 24, .tmp 6]) Tryz.results167 (le_b rfl) (le_b rfl) d ?_
 refine sq9 (zzj 2 ⟨24, i1.cs⟩ (zzj 3 ⟨24, i2.cs⟩ (zzj 4 ⟨24, [.bool false, .slice none 0 0]⟩ (zzj 5 ⟨24, [.bool false, .slice none 0 0]⟩ (zza 6 (zI 0) (zzb (zzd (zzy [0, 1, 0, 7, 15, 31] [(0, []), (2, []), (1, []), (3, []), (4, []), (5, [])] xj xj (zzh 10 (.v (i1.v)) ty24 zze (zzh 12 (.v (i2.v)) ty24 zze (zzg 11 173 _ fun _ _ aC aZ => Post.mono (k_riTrim aZ (hi1.ext aC) xq) ?_)))))))))))
 rintro _ u14 aT ⟨ab, rfl, aj⟩
 refine zzg 13 173 _ fun _ _ az aU => Post.mono (k_riTrim aU (hi2.ext (aC.t (aT.t az))) xq) ?_
 rintro _ u20 aS ⟨ac, rfl, ai⟩
 refine zzi ⟨24, ab.cs⟩ ty24 ?_
 refine zzi ⟨24, ac.cs⟩ ty24 ?_
 refine zzb (sq9 (zza 15 (.adr 2 1) (zzh 16 (.v (ab.m.v)) ty22 zzk (zza 17 (.adr 3 1) (zzh 18 (.v (ac.m.v)) ty22 zzk (zzg 19 224 _ fun _ _ an aI => Post.mono (k_rnDivMod aI ((int_mag aj).ext (az.t (aS.t an))).raw ((int_mag ai).ext an).raw hM xq xq) ?_))))))
 rintro _ u28 aO ⟨ae, aa, rfl, al, ah⟩
 refine zza 14 (.v (.tuple #[ae.v, aa.v, .int .i64 0])) (zza 20 (.v (ae.v)) (zza 21 (.v (aa.v)) (zza 22 (zI 0) (zza 7 (.v (ae.v)) (zza 8 (.v (aa.v)) (zza 9 (zI 0) (zzb (zzd (sq9 (zza 23 (zI 0) (zza 24 (zB false) ?_)))))))))))
 refine zzb (zyr xj (zzr (zzo ?_)))
 refine zzd (sq9 (zza 28 (.adr 2 0) (zzh 29 (zB ab.s) ty4 zzk ?_)))
 rcases Bool.eq_false_or_eq_true ab.s with hs31 | hs31
 ·refine zyp 30 (x := zB ab.s) (zB true) (by rw [hs31]) (zza 31 (.v (aa.v)) ?_ (hw := w1 2 true 30))
  refine zza 32 (zI aa.n) ?_ (hw := w1 2 true 30)
  refine zza 33 (zB (decide ((0 : Int) < (aa.n : Int)))) ?_ (hw := w1 2 true 30)
  refine zza 34 (zB (decide ((0 : Int) < (aa.n : Int)))) (zzc 52 [(2, .adr 2 0), (3, .adr 3 0), (4, .adr 4 0), (5, .adr 5 0), (7, .v (ae.v)), (8, .v (aa.v)), (34, zB (decide ((0 : Int) < (aa.n : Int))))] [(2, ⟨24, ab.cs⟩), (3, ⟨24, ac.cs⟩), (4, ⟨24, [.bool false, .slice none 0 0]⟩), (5, ⟨24, [.bool false, .slice none 0 0]⟩)] (zzt (b := decide ((0 : Int) < (aa.n : Int))) xj (fun ad => ?_) (fun ad => ?_)))
  ·have qhb32 := of_decide_eq_true ad
   refine zzy [0, 0, 3, 0, 8, 0, 63, 127, 255] [(0, []), (1, []), (3, []), (4, []), (5, []), (2, [36]), (6, []), (7, []), (8, [])] xj xj (zza 35 (.v (ae.v)) (sy_lit 36 ⟨104, [.int .u32 1]⟩ 1 ?_))
   refine zza 38 (.adr 3 1) (zzh 39 (.v (ac.m.v)) ty22 zzk (zza 40 (.v (aa.v)) (zyn 37 164 [.v (ae.v), .slc 36 0 1 1] [36] (.inr rfl) (pub_mk xz) (k := ?_))))
   intro ao w33 aQ ak aE aW
   have aw : aQ.heap[ao 36]? = some (.cells #[.int .u32 1] 104 (0, 0)) := aW 36 (by simp) _ rfl
   obtain ⟨b34, af⟩ : ∃ b, ao 36 = b := ⟨_, rfl⟩
   rw [af] at aw
   show Calls _ _ #[.slice ae.a ae.n ae.c, .slice (some ⟨ao 36, 0, none⟩) 1 1] _ _
   rw [af]
   have k40 := k_rnAdd aE (al.ext ak).raw (one_data aw).raw xq xq
   with_reducible refine zPm k40 ?_
   rintro _ u38 au ⟨aq, rfl, aM⟩
   refine zzg 41 198 _ fun _ _ ar aJ => Post.mono (k_rnSub aJ ((int_mag ai).ext (an.t (aO.t (ak.t (au.t ar))))).raw (ah.ext (ak.t (au.t ar))).raw xq xq) ?_
   rintro _ u44 aF ⟨ag, rfl, aP⟩
   refine zza 7 (.v (aq.v)) (zza 8 (.v (ag.v)) (zzb (sq9 (zza 42 (.adr 2 0) (zzh 43 (zB ab.s) ty4 zzk (zza 44 (.adr 3 0) (zzh 45 (zB ac.s) ty4 zzk (zza 46 (zB (!(ab.s == ac.s))) (zza 47 (.v (aq.v)) (zza 48 (.v (.agg #[.bool (!(ab.s == ac.s)), aq.v])) (zzg 49 173 _ fun _ _ ax aY => Post.mono (k_riTrim aY (IntV.same (s := !(ab.s == ac.s)) (aM.ext (ar.t (aF.t ax))).raw) xq) ?_)))))))))))
   rintro _ u50 aV ⟨ap, rfl, aK⟩
   refine zza 50 (.v (ag.v)) (zza 51 (.v (.agg #[.bool false, ag.v])) (zzi ⟨24, ap.cs⟩ ty24 ?_))
   refine zzi ⟨24, [.bool false, ag.v]⟩ ty24 ?_
   refine zza 6 (zI 0) (zzb (zzn (ret0 [ap.v, .agg #[.bool false, ag.v], .int .i64 0] ⟨zzq ty24 zze, zzq ty24 zze, zzp, trivial⟩ fun u53 av => ?_)))
   have hs := aj.1
   have ht := ai.1
   have hr := ah.pos
   have qhs31 := hs31
   have qhb32 := ad
   have key := Nt.ediv_neg' zN zM rfl rfl hM (by rw [hs] at hs31; simpa using hs31) (by simp at ad; omega)
   have hK1 : 1 ≤ K := by have h2 := hi1.size; have h3 := (Nt.dl_pos (x := zN.natAbs)).2 (by rw [hs] at hs31; simp at hs31; omega); omega
   rw [← hs, ← ht] at key
   refine ⟨ap, (⟨false, ag⟩ : IL), rfl, IntN.more (K := (max K 1 + 1)) ?_ xq, IntN.more (K := L) ?_ xq⟩
   ·rw [key.1]; exact (aK.ext av)
   rw [key.2]; exact (nat_intN (aP.ext (ax.t (aV.t av))))
  have qhb32 := of_decide_eq_false ad
  refine zzr (zzo ?_)
  refine sq9 (zza 42 (.adr 2 0) (zzh 43 (zB ab.s) ty4 zzk (zza 44 (.adr 3 0) (zzh 45 (zB ac.s) ty4 zzk (zza 46 (zB (!(ab.s == ac.s))) (zza 47 (.v (ae.v)) (zza 48 (.v (.agg #[.bool (!(ab.s == ac.s)), ae.v])) (zzg 49 173 _ fun _ _ aD aL => Post.mono (k_riTrim aL (IntV.same (s := !(ab.s == ac.s)) (al.ext aD).raw) xq) ?_))))))))
  rintro _ u58 aH ⟨am, rfl, aN⟩
  refine zza 50 (.v (aa.v)) (zza 51 (.v (.agg #[.bool false, aa.v])) (zzi ⟨24, am.cs⟩ ty24 ?_))
  refine zzi ⟨24, [.bool false, aa.v]⟩ ty24 ?_
  refine zza 6 (zI 0) (zzb (zzn (ret0 [am.v, .agg #[.bool false, aa.v], .int .i64 0] ⟨zzq ty24 zze, zzq ty24 zze, zzp, trivial⟩ fun u61 aA => ?_)))
  have hs := aj.1
  have ht := ai.1
  have hr := ah.pos
  have qhs31 := hs31
  have qhb32 := ad
  have key := Nt.ediv_pos zN zM rfl rfl hM (fun hc => by simp at ad; omega)
  rw [← hs, ← ht] at key
  refine ⟨am, (⟨false, aa⟩ : IL), rfl, IntN.more (K := K) ?_ xq, IntN.more (K := L) ?_ xq⟩
  ·rw [key.1]; exact (aN.ext aA)
  rw [key.2]; exact (nat_intN (ah.ext (aD.t (aH.t aA))))
 refine zyp 30 (x := zB ab.s) (zB false) (by rw [hs31]) (zzm 31 (uw 2 true false 30) (zzm 32 (uw 2 true false 30) (zzm 33 (uw 2 true false 30) (zza 34 (zB false) (zzc 52 [(2, .adr 2 0), (3, .adr 3 0), (4, .adr 4 0), (5, .adr 5 0), (7, .v (ae.v)), (8, .v (aa.v)), (34, zB false)] [(2, ⟨24, ab.cs⟩), (3, ⟨24, ac.cs⟩), (4, ⟨24, [.bool false, .slice none 0 0]⟩), (5, ⟨24, [.bool false, .slice none 0 0]⟩)] (zyr xj (zzr (zzo ?_))))))))
 refine sq9 (zza 42 (.adr 2 0) (zzh 43 (zB ab.s) ty4 zzk (zza 44 (.adr 3 0) (zzh 45 (zB ac.s) ty4 zzk (zza 46 (zB (!(ab.s == ac.s))) (zza 47 (.v (ae.v)) (zza 48 (.v (.agg #[.bool (!(ab.s == ac.s)), ae.v])) (zzg 49 173 _ fun _ _ ay aR => Post.mono (k_riTrim aR (IntV.same (s := !(ab.s == ac.s)) (al.ext ay).raw) xq) ?_))))))))
 rintro _ u66 aG ⟨i64, rfl, aX⟩
 refine zza 50 (.v (aa.v)) (zza 51 (.v (.agg #[.bool false, aa.v])) (zzi ⟨24, i64.cs⟩ ty24 ?_))
 refine zzi ⟨24, [.bool false, aa.v]⟩ ty24 ?_
 refine zza 6 (zI 0) (zzb (zzn (ret0 [i64.v, .agg #[.bool false, aa.v], .int .i64 0] ⟨zzq ty24 zze, zzq ty24 zze, zzp, trivial⟩ fun u69 aB => ?_)))
 have hs := aj.1
 have ht := ai.1
 have hr := ah.pos
 have qhs31 := hs31
 have key := Nt.ediv_pos zN zM rfl rfl hM (fun hc => by rw [hs] at hs31; simp at hs31; omega)
 rw [← hs, ← ht] at key
 refine ⟨i64, (⟨false, aa⟩ : IL), rfl, IntN.more (K := K) ?_ xq, IntN.more (K := L) ?_ xq⟩
 ·rw [key.1]; exact (aX.ext aB)
 rw [key.2]; exact (nat_intN (ah.ext (ay.t (aG.t aB))))
set_option maxHeartbeats 2000000 in
theorem k_reduce {u w : World} {i1 i2 : IL} {z y : Int} {K L : Nat} (d : Dat u w) (hi1 : IntV u i1 z K) (hi2 : IntV u i2 y L) (hK : K ≤ 400000000) (hL : L ≤ 400000000) : Calls Tryz.prog 93 #[i1.v, i2.v] w (Post u w fun v u' => ∃ r : RL, v = r.v ∧ RatN u' r ((z : Rat) / (y : Rat)) (max K L + 1)) := by
 refine zzl (args := [i1.v, i2.v]) Tryz.func93 rfl Tryz.ntmps93 (rs := [.cell 4 26]) Tryz.results93 (le_b rfl) (le_b rfl) d ?_
 refine sq9 (zzj 2 ⟨24, i1.cs⟩ (zzj 3 ⟨24, i2.cs⟩ (zzj 4 ⟨26, zw3⟩ (zzb (zzd (sq9 (zzh 12 (.v (i1.v)) ty24 zze (zzg 13 98 _ fun _ _ af aQ => Post.mono (k_riSign aQ (hi1.ext af) xq) ?_))))))))
 rintro _ u12 ai rfl
 refine zza 14 (zB ((Nt.cmpS z 0) == 0)) ?_
 rcases Bool.eq_false_or_eq_true ((Nt.cmpS z 0) == 0) with hs15 | hs15
 ·refine zyp 15 (x := zB ((Nt.cmpS z 0) == 0)) (zB true) (by rw [hs15]) ?_
  have aD : z = 0 := Nt.cmp_eq0 hs15
  refine zzm 16 (uw 3 false true 15) (zzm 17 (uw 3 false true 15) (zzm 18 (uw 3 false true 15) (zza 19 (zB true) (zzb (zyq xj (sq9 (zxw 20 ⟨104, [.int .u32 1]⟩ 1 (fun ap u17 e18 aK => ?_))))))))
  refine zza 21 (.v (.agg #[.bool false, .slice none 0 0, .slice (some ⟨ap, 0, none⟩) 1 1])) (zzi ⟨26, [.bool false, .slice none 0 0, .slice (some ⟨ap, 0, none⟩) 1 1]⟩ ty26 ?_)
  refine zzb (zzn (zzv (ret0 [.agg #[.bool false, .slice none 0 0, .slice (some ⟨ap, 0, none⟩) 1 1]] ⟨zzq ty26 zze, trivial⟩ fun u20 aJ => ?_)))
  refine ⟨(⟨false, ⟨none, 0, 0⟩, (⟨some ⟨ap, 0, none⟩, 1, 1⟩ : Sl)⟩ : RL), rfl, ?_⟩
  have h9 : (z : Rat) / (y : Rat) = ((0 : Int) : Rat) := by rw [aD]; simp [Rat.div_def]
  rw [h9]
  exact RatN.more (whole_rat (int_zero _ 1) ((one_data aK).ext aJ)) xq
 refine zyp 15 (x := zB ((Nt.cmpS z 0) == 0)) (zB false) (by rw [hs15]) ?_
 have aD : z ≠ 0 := Nt.cmp_ne0 hs15
 refine zzh 16 (.v (i2.v)) ty24 zze ?_ (hw := w1 3 false 15)
 refine zzg 17 98 _ (fun _ _ ag aH => Post.mono (k_riSign aH (hi2.ext (af.t (ai.t ag))) xq) ?_) (hw := w1 3 false 15)
 rintro _ u23 ao rfl
 refine zza 18 (zB ((Nt.cmpS y 0) == 0)) ?_ (hw := w1 3 false 15)
 refine zza 19 (zB ((Nt.cmpS y 0) == 0)) (zzb (zzt (b := (Nt.cmpS y 0) == 0) xj (fun ae => ?_) (fun ae => ?_)))
 ·have ah : y = 0 := Nt.cmp_eq0 ae
  refine sq9 (zxw 20 ⟨104, [.int .u32 1]⟩ 1 (fun am u28 e29 aM => ?_))
  refine zza 21 (.v (.agg #[.bool false, .slice none 0 0, .slice (some ⟨am, 0, none⟩) 1 1])) (zzi ⟨26, [.bool false, .slice none 0 0, .slice (some ⟨am, 0, none⟩) 1 1]⟩ ty26 ?_)
  refine zzb (zzn (zzv (ret0 [.agg #[.bool false, .slice none 0 0, .slice (some ⟨am, 0, none⟩) 1 1]] ⟨zzq ty26 zze, trivial⟩ fun u31 aG => ?_)))
  refine ⟨(⟨false, ⟨none, 0, 0⟩, (⟨some ⟨am, 0, none⟩, 1, 1⟩ : Sl)⟩ : RL), rfl, ?_⟩
  have h9 : (z : Rat) / (y : Rat) = ((0 : Int) : Rat) := by rw [ah]; simp [Rat.div_def]
  rw [h9]
  exact RatN.more (whole_rat (int_zero _ 1) ((one_data aM).ext aG)) xq
 have ah : y ≠ 0 := Nt.cmp_ne0 ae
 have aA : ((Nat.gcd z.natAbs y.natAbs : Nat) : Int) ≠ 0 := by have h9 := Nat.gcd_pos_of_pos_right z.natAbs (Int.natAbs_pos.2 ah); omega
 refine zzr (zzo ?_)
 refine sq9 (zzh 22 (.v (i1.v)) ty24 zze (zzh 23 (.v (i2.v)) ty24 zze (zzg 24 172 _ fun _ _ ak aF => Post.mono (k_riGcd aF (hi1.ext (af.t (ai.t (ag.t (ao.t ak))))) (hi2.ext (af.t (ai.t (ag.t (ao.t ak))))) xq xq) ?_)))
 rintro _ u36 aE ⟨aq, rfl, aw⟩
 refine zzj 5 ⟨24, [.bool false, .slice none 0 0]⟩ (zzi ⟨24, aq.cs⟩ ty24 ?_)
 refine zzb (sq9 (zzh 26 (.v (i1.v)) ty24 zze (zzh 27 (.v (aq.v)) ty24 zze (zzg 28 167 _ fun _ _ aj aN => Post.mono (k_riDiv aN (hi1.ext (af.t (ai.t (ag.t (ao.t (ak.t (aE.t aj))))))) (aw.ext aj).raw aA xq xq) ?_))))
 rintro _ u44 av ⟨ac, ar, rfl, aB, h43⟩
 refine zza 25 (.v (.tuple #[ac.v, ar.v, .int .i64 0])) (zza 29 (.v (ac.v)) (zza 30 (.v (ar.v)) (zza 31 (zI 0) (zzj 6 ⟨24, [.bool false, .slice none 0 0]⟩ (zzj 7 ⟨24, [.bool false, .slice none 0 0]⟩ (zzi ⟨24, ac.cs⟩ ty24 ?_))))))
 refine zzi ⟨24, ar.cs⟩ ty24 ?_
 refine zza 8 (zI 0) (zzb (sq9 (zzh 33 (.v (i2.v)) ty24 zze (zzh 34 (.v (aq.v)) ty24 zze (zzg 35 167 _ fun _ _ al aP => Post.mono (k_riDiv aP (hi2.ext (af.t (ai.t (ag.t (ao.t (ak.t (aE.t (aj.t (av.t al))))))))) (aw.ext (aj.t (av.t al))).raw aA xq xq) ?_)))))
 rintro _ u52 az ⟨aa, au, rfl, an, h51⟩
 refine zza 32 (.v (.tuple #[aa.v, au.v, .int .i64 0])) (zza 36 (.v (aa.v)) (zza 37 (.v (au.v)) (zza 38 (zI 0) (zzj 9 ⟨24, [.bool false, .slice none 0 0]⟩ (zzj 10 ⟨24, [.bool false, .slice none 0 0]⟩ (zzi ⟨24, aa.cs⟩ ty24 ?_))))))
 refine zzi ⟨24, au.cs⟩ ty24 ?_
 refine zza 11 (zI 0) (zzc 47 [(4, .adr 4 0), (6, .adr 6 0), (9, .adr 9 0)] [(4, ⟨26, zw3⟩), (6, ⟨24, ac.cs⟩), (9, ⟨24, aa.cs⟩)] (zzd (sq9 (zza 39 (.adr 9 0) (zzh 40 (zB aa.s) ty4 zzk (zzb (zzt (b := aa.s) xj (fun ab => ?_) (fun ab => ?_))))))))
 ·replace ab : aa.s = true := ab
  refine zzf (zzh 41 (.v (ac.v)) ty24 zze (zzg 42 108 _ fun _ _ ax aL => Post.mono (k_riNeg aL (aB.ext (al.t (az.t ax))).raw xq) ?_))
  rintro _ u59 aI ⟨ad, rfl, aO⟩
  refine zzi ⟨24, ad.cs⟩ ty24 ?_
  refine zzb (sq9 (zzh 43 (.v (ad.v)) ty24 zze (zza 44 (.adr 9 1) (zzh 45 (.v (aa.m.v)) ty22 zzk (zza 46 (.v (.agg #[.bool ad.s, ad.m.v, aa.m.v])) (zzi ⟨26, ad.cs ++ [aa.m.v]⟩ ty26 ?_))))))
  refine zzb (zzn (ret0 [.agg #[.bool ad.s, ad.m.v, aa.m.v]] ⟨zzq ty26 zze, trivial⟩ fun u62 ay => ?_))
  refine ⟨(⟨ad.s, ad.m, aa.m⟩ : RL), rfl, RatN.more (red_neg ah rfl (aO.ext ay) an ab ((int_mag an).ext (ax.t (aI.t ay)))) xq⟩
 replace ab : aa.s = false := ab
 refine zzr (zzo ?_)
 refine sq9 (zzh 43 (.v (ac.v)) ty24 zze (zza 44 (.adr 9 1) (zzh 45 (.v (aa.m.v)) ty22 zzk (zza 46 (.v (.agg #[.bool ac.s, ac.m.v, aa.m.v])) (zzi ⟨26, ac.cs ++ [aa.m.v]⟩ ty26 ?_)))))
 refine zzb (zzn (ret0 [.agg #[.bool ac.s, ac.m.v, aa.m.v]] ⟨zzq ty26 zze, trivial⟩ fun u64 aC => ?_))
 refine ⟨(⟨ac.s, ac.m, aa.m⟩ : RL), rfl, RatN.more (red_pos ah rfl (aB.ext (al.t (az.t aC))) an ab ((int_mag an).ext aC)) xq⟩
theorem k_parts {u w : World} {r : RL} {q : Rat} {K : Nat} (d : Dat u w) (h : RatV u r q K) (hKK : K ≤ 400000000) : Calls Tryz.prog 92 #[r.v] w (Post u w (PartV q K)) := by
 obtain ⟨⟨z, D, hi, hd, hq⟩, hK⟩ := h
 change IntV u ⟨r.s, r.m⟩ z K at hi
 change NatV u r.d D K at hd
 refine zzl (args := [r.v]) Tryz.func92 rfl Tryz.ntmps92 (rs := [.cell 2 24, .cell 3 24]) Tryz.results92 (le_b rfl) (le_b rfl) d ?_
 refine sq9 (zzj 1 ⟨26, r.cs⟩ (zzj 2 ⟨24, [.bool false, .slice none 0 0]⟩ (zzj 3 ⟨24, [.bool false, .slice none 0 0]⟩ (zzb (sq9 (zza 5 (.adr 1 2) (zzh 6 (.v (r.d.v)) ty22 zzk (zzg 7 171 _ fun _ _ ag ak => Post.mono (k_rnTrim ak (hd.ext ag) xq) ?_))))))))
 rintro _ u14 ah ⟨aa, rfl, ae⟩
 refine zza 8 (.v (.agg #[.bool false, aa.v])) (zzj 4 ⟨24, [.bool false, .slice none 0 0]⟩ (zzi ⟨24, [.bool false, aa.v]⟩ ty24 ?_))
 refine zzb (zzd (sq9 (zza 9 (.adr 4 1) (zzh 10 (.v (aa.v)) ty22 zzk (zza 11 (zI aa.n) (zza 12 (zB ((aa.n : Int) == 0)) (zzb (zzt (b := (aa.n : Int) == 0) xj (fun ab => ?_) (fun ab => ?_)))))))))
 ·have ac : (aa.n : Int) = 0 := by simpa using ab
  refine sq9 (zza 13 (.v (.agg #[.bool false, .slice none 0 0])) (zxw 14 ⟨104, [.int .u32 1]⟩ 1 (fun ad u19 e20 aj => ?_)))
  refine zza 15 (.v (.agg #[.bool false, .slice (some ⟨ad, 0, none⟩) 1 1])) (zzi ⟨24, [.bool false, .slice none 0 0]⟩ ty24 ?_)
  refine zzi ⟨24, [.bool false, .slice (some ⟨ad, 0, none⟩) 1 1]⟩ ty24 ?_
  refine zzb (zzn (zzv (ret0 [.agg #[.bool false, .slice none 0 0], .agg #[.bool false, .slice (some ⟨ad, 0, none⟩) 1 1]] ⟨zzq ty24 zze, zzq ty24 zze, trivial⟩ fun u22 ai => ?_)))
  have hp := ae.pos
  have hD : D = 0 := by simp at ab; omega
  exact ⟨⟨false, ⟨none, 0, 0⟩⟩, ⟨false, (⟨some ⟨ad, 0, none⟩, 1, 1⟩ : Sl)⟩, 0, 1, rfl, (int_zero _ K).raw, nat_intN (((one_data aj).ext ai).more hK), by omega, by rw [hq, hD]; simp, hK⟩
 have ac : ¬ ((aa.n : Int) = 0) := by simpa using ab
 refine zzr (zzo ?_)
 refine zzd (zzy [0, 1, 0, 3, 15] [(0, []), (1, []), (2, []), (3, [4]), (4, [])] xj xj (zza 16 (.adr 1 0) (zzh 17 (.v (.agg #[.bool r.s, r.m.v])) ty24 zze (zzh 18 (.v (.agg #[.bool false, aa.v])) ty24 zze (zzi ⟨24, [.bool r.s, r.m.v]⟩ ty24 ?_)))))
 refine zzi ⟨24, [.bool false, aa.v]⟩ ty24 ?_
 refine zzb (zzn (ret0 [.agg #[.bool r.s, r.m.v], .agg #[.bool false, aa.v]] ⟨zzq ty24 zze, zzq ty24 zze, trivial⟩ fun u24 af => ?_))
 have hp := ae.pos
 exact ⟨⟨r.s, r.m⟩, ⟨false, aa⟩, z, D, rfl, (hi.ext (ag.t (ah.t af))), nat_intN (ae.ext af), by simp at ab; omega, hq, hK⟩
theorem k_rqTrim {u w : World} {r1 : RL} {x : Rat} {K : Nat} (d : Dat u w) (hr1 : RatV u r1 x K) (hK : K ≤ 100000000) : Calls Tryz.prog 90 #[r1.v] w (Post u w fun v u' => ∃ r : RL, v = r.v ∧ RatN u' r x K) := by
 refine zzl (args := [r1.v]) Tryz.func90 rfl Tryz.ntmps90 (rs := [.cell 2 26]) Tryz.results90 (le_b rfl) (le_b rfl) d ?_
 refine sq9 (zzj 1 ⟨26, r1.cs⟩ (zzj 2 ⟨26, zw3⟩ (zzb (sq9 (zzh 6 (.v (r1.v)) ty26 zze (zzg 7 92 _ fun _ _ al an => Post.mono (k_parts an (hr1.ext al) xq) ?_))))))
 rintro _ u13 g14 ⟨aa, ab, z12, D12, rfl, af, ad, ak, ac, am⟩
 refine zza 5 (.v (.tuple #[aa.v, ab.v])) (zza 8 (.v (aa.v)) (zza 9 (.v (ab.v)) (zzj 3 ⟨24, [.bool false, .slice none 0 0]⟩ (zzj 4 ⟨24, [.bool false, .slice none 0 0]⟩ (zzi ⟨24, aa.cs⟩ ty24 ?_)))))
 refine zzi ⟨24, ab.cs⟩ ty24 ?_
 refine zzb (sq9 (zzh 10 (.v (aa.v)) ty24 zze (zzh 11 (.v (ab.v)) ty24 zze (zzg 12 93 _ fun _ _ ag aj => Post.mono (k_reduce aj (af.ext ag) (ad.ext ag).raw xq xq) ?_))))
 rintro _ u19 g20 ⟨ae, rfl, ah⟩
 refine zzi ⟨26, ae.cs⟩ ty26 ?_
 refine zzb (zzn (ret0 [ae.v] ⟨zzq ty26 zze, trivial⟩ fun u22 ai => ?_))
 refine ⟨ae, rfl, RatN.fit (K := (max K K + 1)) ?_ (hr1.rs)⟩
 rw [ac, ← Nt.mk_div]
 exact (ah.ext ai)
theorem k_rqOf {u w : World} {z : Int} (d : Dat u w) (h0 : -9223372036854775808 ≤ z) (h1 : z ≤ 9223372036854775807) : Calls Tryz.prog 30 #[.int .i64 z] w (Post u w fun v u' => ∃ r : RL, v = r.v ∧ RatN u' r (z : Rat) 2) := by
 refine zzl (args := [.int .i64 z]) Tryz.func30 rfl Tryz.ntmps30 (rs := [.cell 2 26]) Tryz.results30 (le_b rfl) (le_b rfl) d ?_
 refine sq9 (zzj 2 ⟨26, zw3⟩ (zzb (sq9 (zza 3 (zI z) (zzg 4 99 _ fun _ _ _ af => Post.mono (k_riOf af (z := z) xq xq) ?_)))))
 rintro _ u14 g15 ⟨aa, rfl, ag⟩
 refine zxw 5 ⟨104, [.int .u32 1]⟩ 1 (fun ab u18 ae ad => ?_)
 refine zza 6 (.v (.agg #[.bool aa.s, aa.m.v, .slice (some ⟨ab, 0, none⟩) 1 1])) (zzi ⟨26, aa.cs ++ [.slice (some ⟨ab, 0, none⟩) 1 1]⟩ ty26 ?_)
 refine zzb (zzn (ret0 [.agg #[.bool aa.s, aa.m.v, .slice (some ⟨ab, 0, none⟩) 1 1]] ⟨zzq ty26 zze, trivial⟩ fun u21 ac => ?_))
 refine ⟨(⟨aa.s, aa.m, (⟨some ⟨ab, 0, none⟩, 1, 1⟩ : Sl)⟩ : RL), rfl, ?_⟩
 exact whole_rat (ag.ext (ae.trans ac)) ((one_data ad).ext ac)
theorem k_rqFrac {u w : World} {a b : Int} (d : Dat u w) (ha0 : -9223372036854775808 ≤ a) (ha1 : a ≤ 9223372036854775807) (hb0 : -9223372036854775808 ≤ b) (hb1 : b ≤ 9223372036854775807) : Calls Tryz.prog 75 #[.int .i64 a, .int .i64 b] w (Post u w fun v u' => ∃ r : RL, v = r.v ∧ RatN u' r ((a : Rat) / (b : Rat)) 3) := by
 refine zzl (args := [.int .i64 a, .int .i64 b]) Tryz.func75 rfl Tryz.ntmps75 (rs := [.cell 4 26]) Tryz.results75 (le_b rfl) (le_b rfl) d ?_
 refine sq9 (zzj 4 ⟨26, zw3⟩ (zzb (sq9 (zza 5 (zI a) (zzg 6 99 _ fun _ _ _ ak => Post.mono (k_riOf ak (z := a) xq xq) ?_)))))
 rintro _ u14 g15 ⟨i12, rfl, ai⟩
 refine zza 7 (zI b) (zzg 8 99 _ fun _ _ ae aj => Post.mono (k_riOf aj (z := b) xq xq) ?_)
 rintro _ u20 ah ⟨i18, rfl, af⟩
 refine zzg 9 93 _ fun _ _ ab ad => Post.mono (k_reduce ad (ai.ext (ae.t (ah.t ab))).raw (af.ext ab).raw xq xq) ?_
 rintro _ u26 g27 ⟨aa, rfl, ac⟩
 refine zzi ⟨26, aa.cs⟩ ty26 ?_
 refine zzb (zzn (ret0 [aa.v] ⟨zzq ty26 zze, trivial⟩ fun u29 ag => ?_))
 refine ⟨aa, rfl, RatN.more (K := (max 2 2 + 1)) ?_ xq⟩
 exact (ac.ext ag)
theorem k_rqSign {u w : World} {r1 : RL} {x : Rat} {K : Nat} (d : Dat u w) (hr1 : RatV u r1 x K) (hK : K ≤ 100000000) : Calls Tryz.prog 29 #[r1.v] w (Post u w fun v u' => v = .int .i64 (Nt.sgQ x)) := by
 refine zzl (args := [r1.v]) Tryz.func29 rfl Tryz.ntmps29 (rs := [.tmp 2]) Tryz.results29 (le_b rfl) (le_b rfl) d ?_
 refine sq9 (zzj 1 ⟨26, r1.cs⟩ (zza 2 (zI 0) (zzb (sq9 (zzh 6 (.v (r1.v)) ty26 zze (zzg 7 92 _ fun _ _ aj al => Post.mono (k_parts al (hr1.ext aj) xq) ?_))))))
 rintro _ u13 g14 ⟨aa, ad, af, D12, rfl, ae, ag, ac, ab, ak⟩
 refine zza 5 (.v (.tuple #[aa.v, ad.v])) (zza 8 (.v (aa.v)) (zza 9 (.v (ad.v)) (zzj 3 ⟨24, [.bool false, .slice none 0 0]⟩ (zzj 4 ⟨24, [.bool false, .slice none 0 0]⟩ (zzi ⟨24, aa.cs⟩ ty24 ?_)))))
 refine zzi ⟨24, ad.cs⟩ ty24 ?_
 refine zzb (sq9 (zzh 10 (.v (aa.v)) ty24 zze (zzg 11 98 _ fun _ _ ah ai => Post.mono (k_riSign ai (ae.ext ah) xq) ?_)))
 rintro _ u17 g18 rfl
 refine zza 2 (zI (Nt.cmpS af 0)) (zzb (zzn (ret0 [.int .i64 (Nt.cmpS af 0)] ⟨zzp, trivial⟩ fun u20 e21 => ?_)))
 show _ = _
 rw [ab, ← Nt.sg_mk ac]
 rfl
theorem k_rqCompare {u w : World} {r1 : RL} {x : Rat} {K : Nat} {r2 : RL} {y : Rat} {L : Nat} (d : Dat u w) (hr1 : RatV u r1 x K) (hr2 : RatV u r2 y L) (hK : K ≤ 100000000) (hL : L ≤ 100000000) : Calls Tryz.prog 28 #[r1.v, r2.v] w (Post u w fun v u' => v = .int .i64 (Nt.cmpQ x y)) := by
 refine zzl (args := [r1.v, r2.v]) Tryz.func28 rfl Tryz.ntmps28 (rs := [.tmp 4]) Tryz.results28 (le_b rfl) (le_b rfl) d ?_
 refine sq9 (zzj 2 ⟨26, r1.cs⟩ (zzj 3 ⟨26, r2.cs⟩ (zza 4 (zI 0) (zzb (sq9 (zzh 10 (.v (r1.v)) ty26 zze (zzg 11 92 _ fun _ _ ay aJ => Post.mono (k_parts aJ (hr1.ext ay) xq) ?_)))))))
 rintro _ u13 aE ⟨ab, ae, av, aw, rfl, ao, ai, am, af, aI⟩
 refine zza 9 (.v (.tuple #[ab.v, ae.v])) (zza 12 (.v (ab.v)) (zza 13 (.v (ae.v)) (zzj 5 ⟨24, [.bool false, .slice none 0 0]⟩ (zzj 6 ⟨24, [.bool false, .slice none 0 0]⟩ (zzi ⟨24, ab.cs⟩ ty24 ?_)))))
 refine zzi ⟨24, ae.cs⟩ ty24 ?_
 refine zzb (sq9 (zzh 15 (.v (r2.v)) ty26 zze (zzg 16 92 _ fun _ _ aj aG => Post.mono (k_parts aG (hr2.ext (ay.t (aE.t aj))) xq) ?_)))
 rintro _ u18 au ⟨aa, ad, ap, ar, rfl, al, an, ag, ak, aA⟩
 refine zza 14 (.v (.tuple #[aa.v, ad.v])) (zza 17 (.v (aa.v)) (zza 18 (.v (ad.v)) (zzj 7 ⟨24, [.bool false, .slice none 0 0]⟩ (zzj 8 ⟨24, [.bool false, .slice none 0 0]⟩ (zzi ⟨24, aa.cs⟩ ty24 ?_)))))
 refine zzi ⟨24, ad.cs⟩ ty24 ?_
 refine zzb (zzd (zzy [0, 0, 3, 0, 0, 31, 63, 127] [(0, []), (1, []), (3, []), (4, []), (2, []), (5, []), (6, []), (7, [])] xj xj (zzh 19 (.v (ab.v)) ty24 zze (zzh 20 (.v (ad.v)) ty24 zze (zzh 22 (.v (aa.v)) ty24 zze (zzh 23 (.v (ae.v)) ty24 zze (zzg 21 94 _ fun _ _ ac aC => Post.mono (k_riMul aC (ao.ext (aj.t (au.t ac))) (an.ext ac).raw xq xq) ?_)))))))
 rintro _ u24 ax ⟨i22, rfl, aD⟩
 refine zzg 24 94 _ fun _ _ ah aF => Post.mono (k_riMul aF (al.ext (ac.t (ax.t ah))) (ai.ext (aj.t (au.t (ac.t (ax.t ah))))).raw xq xq) ?_
 rintro _ u30 aH ⟨i28, rfl, aB⟩
 refine zzg 25 97 _ fun _ _ aq az => Post.mono (k_riCompare az (aD.ext (ah.t (aH.t aq))).raw (aB.ext aq).raw xq xq) ?_
 rintro _ u34 g35 rfl
 refine zza 4 (zI (Nt.cmpS (av * (ar : Int)) (ap * (aw : Int)))) (zzb (zzn (ret0 [.int .i64 (Nt.cmpS (av * (ar : Int)) (ap * (aw : Int)))] ⟨zzp, trivial⟩ fun u37 e38 => ?_)))
 show _ = _
 rw [af, ak, ← Nt.cmp_mk am ag]
 rfl
theorem k_rqLess {u w : World} {r1 : RL} {x : Rat} {K : Nat} {r2 : RL} {y : Rat} {L : Nat} (d : Dat u w) (hr1 : RatV u r1 x K) (hr2 : RatV u r2 y L) (hK : K ≤ 100000000) (hL : L ≤ 100000000) : Calls Tryz.prog 110 #[r1.v, r2.v] w (Post u w fun v u' => v = .bool (decide (x < y))) := by
 refine zzl (args := [r1.v, r2.v]) Tryz.func110 rfl Tryz.ntmps110 (rs := [.tmp 4]) Tryz.results110 (le_b rfl) (le_b rfl) d ?_
 refine sq9 (zzj 2 ⟨26, r1.cs⟩ (zzj 3 ⟨26, r2.cs⟩ (zza 4 (zB false) (zzb (sq9 (zzh 5 (.v (r1.v)) ty26 zze (zzh 6 (.v (r2.v)) ty26 zze (zzg 7 28 _ fun _ _ aa ab => Post.mono (k_rqCompare ab (hr1.ext aa) (hr2.ext aa) xq xq) ?_))))))))
 rintro _ u12 g13 rfl
 refine zza 8 (zB (decide ((Nt.cmpQ x y) < 0))) (zza 4 (zB (decide ((Nt.cmpQ x y) < 0))) (zzb (zzn (ret0 [.bool (decide ((Nt.cmpQ x y) < 0))] ⟨zzp, trivial⟩ fun u15 e16 => ?_))))
 show _ = _
 rw [← Nt.cmpQ_lt]
 rfl
theorem k_rqNeg {u w : World} {r1 : RL} {x : Rat} {K : Nat} (d : Dat u w) (hr1 : RatV u r1 x K) (hK : K ≤ 100000000) : Calls Tryz.prog 39 #[r1.v] w (Post u w fun v u' => ∃ r : RL, v = r.v ∧ RatN u' r (-x) K) := by
 refine zzl (args := [r1.v]) Tryz.func39 rfl Tryz.ntmps39 (rs := [.cell 2 26]) Tryz.results39 (le_b rfl) (le_b rfl) d ?_
 refine sq9 (zzj 1 ⟨26, r1.cs⟩ (zzj 2 ⟨26, zw3⟩ (zzb (sq9 (zzh 3 (.v (r1.v)) ty26 zze (zzg 4 90 _ fun _ _ ah aj => Post.mono (k_rqTrim aj (hr1.ext ah) xq) ?_))))))
 rintro _ u14 g15 ⟨ab, rfl, ad⟩
 refine zzi ⟨26, ab.cs⟩ ty26 ?_
 refine zzb (sq9 (zza 5 (.adr 1 0) (zzh 6 (.v (.agg #[.bool ab.s, ab.m.v])) ty24 zze (zzg 7 108 _ fun _ _ ae ag => Post.mono (k_riNeg ag ((RatN.num ad).ext ae).raw xq) ?_))))
 rintro _ u20 ai ⟨aa, rfl, af⟩
 refine zza 8 (.adr 1 0) (zzi ⟨26, aa.cs ++ [ab.d.v]⟩ ty24 ?_)
 refine zzb (sq9 (zzh 9 (.v (.agg #[.bool aa.s, aa.m.v, ab.d.v])) ty26 zze (zzi ⟨26, aa.cs ++ [ab.d.v]⟩ ty26 ?_)))
 refine zzb (zzn (ret0 [.agg #[.bool aa.s, aa.m.v, ab.d.v]] ⟨zzq ty26 zze, trivial⟩ fun u23 ac => ?_))
 exact ⟨(⟨aa.s, aa.m, ab.d⟩ : RL), rfl, neg_rat (ad.ext (ae.t (ai.t ac))) (af.ext ac)⟩
theorem k_rqAdd {u w : World} {r1 : RL} {x : Rat} {K : Nat} {r2 : RL} {y : Rat} {L : Nat} (d : Dat u w) (hr1 : RatV u r1 x K) (hr2 : RatV u r2 y L) (hK : K ≤ 100000000) (hL : L ≤ 100000000) : Calls Tryz.prog 57 #[r1.v, r2.v] w (Post u w fun v u' => ∃ r : RL, v = r.v ∧ RatN u' r (x + y) (K + L + 2)) := by
 refine zzl (args := [r1.v, r2.v]) Tryz.func57 rfl Tryz.ntmps57 (rs := [.cell 4 26]) Tryz.results57 (le_b rfl) (le_b rfl) d ?_
 refine sq9 (zzj 2 ⟨26, r1.cs⟩ (zzj 3 ⟨26, r2.cs⟩ (zzj 4 ⟨26, zw3⟩ (zzb (sq9 (zzh 10 (.v (r1.v)) ty26 zze (zzg 11 92 _ fun _ _ ay aQ => Post.mono (k_parts aQ (hr1.ext ay) xq) ?_)))))))
 rintro _ u13 aH ⟨ai, af, z12, D12, rfl, aw, ac, au, an, aP⟩
 refine zza 9 (.v (.tuple #[ai.v, af.v])) (zza 12 (.v (ai.v)) (zza 13 (.v (af.v)) (zzj 5 ⟨24, [.bool false, .slice none 0 0]⟩ (zzj 6 ⟨24, [.bool false, .slice none 0 0]⟩ (zzi ⟨24, ai.cs⟩ ty24 ?_)))))
 refine zzi ⟨24, af.cs⟩ ty24 ?_
 refine zzb (sq9 (zzh 15 (.v (r2.v)) ty26 zze (zzg 16 92 _ fun _ _ ak aL => Post.mono (k_parts aL (hr2.ext (ay.t (aH.t ak))) xq) ?_)))
 rintro _ u18 ap ⟨ah, ae, z17, D17, rfl, ar, ad, ao, aq, aB⟩
 refine zza 14 (.v (.tuple #[ah.v, ae.v])) (zza 17 (.v (ah.v)) (zza 18 (.v (ae.v)) (zzj 7 ⟨24, [.bool false, .slice none 0 0]⟩ (zzj 8 ⟨24, [.bool false, .slice none 0 0]⟩ (zzi ⟨24, ah.cs⟩ ty24 ?_)))))
 refine zzi ⟨24, ae.cs⟩ ty24 ?_
 refine zzb (zzd (zzy [0, 0, 3, 0, 0, 31, 63, 0, 0, 511, 1023, 2047] [(0, []), (1, []), (3, []), (4, []), (7, []), (8, []), (2, []), (5, []), (6, []), (9, []), (10, []), (11, [])] xj xj (zzh 19 (.v (ai.v)) ty24 zze (zzh 20 (.v (ae.v)) ty24 zze (zzh 22 (.v (ah.v)) ty24 zze (zzh 23 (.v (af.v)) ty24 zze (zzh 26 (.v (af.v)) ty24 zze (zzh 27 (.v (ae.v)) ty24 zze (zzg 21 94 _ fun _ _ aa aD => Post.mono (k_riMul aD (aw.ext (ak.t (ap.t aa))) (ad.ext aa).raw xq xq) ?_)))))))))
 rintro _ u24 al ⟨i22, rfl, aG⟩
 refine zzg 24 94 _ fun _ _ ab aJ => Post.mono (k_riMul aJ (ar.ext (aa.t (al.t ab))) (ac.ext (ak.t (ap.t (aa.t (al.t ab))))).raw xq xq) ?_
 rintro _ u30 av ⟨i28, rfl, aC⟩
 refine zzg 25 129 _ fun _ _ ag aA => Post.mono (k_riAdd aA (aG.ext (ab.t (av.t ag))).raw (aC.ext ag).raw xq xq) ?_
 rintro _ u36 az ⟨i34, rfl, aE⟩
 refine zzg 28 94 _ fun _ _ am aM => Post.mono (k_riMul aM (ac.ext (ak.t (ap.t (aa.t (al.t (ab.t (av.t (ag.t (az.t am))))))))).raw (ad.ext (aa.t (al.t (ab.t (av.t (ag.t (az.t am))))))).raw xq xq) ?_
 rintro _ u42 aN ⟨i40, rfl, aK⟩
 refine zzg 29 93 _ fun _ _ ax aF => Post.mono (k_reduce aF (aE.ext (am.t (aN.t ax))).raw (aK.ext ax).raw xq xq) ?_
 rintro _ u48 g49 ⟨aj, rfl, aO⟩
 refine zzi ⟨26, aj.cs⟩ ty26 ?_
 refine zzc 30 [(4, .adr 4 0)] [(4, ⟨26, aj.cs⟩)] (zzn (ret0 [aj.v] ⟨zzq ty26 zze, trivial⟩ fun u51 aI => ?_))
 refine ⟨aj, rfl, RatN.more (K := (max (max (K + L) (L + K) + 1) (K + L) + 1)) ?_ xq⟩
 rw [an, aq, ← Nt.add_div2 au ao]
 exact (aO.ext aI)
theorem k_rqMul {u w : World} {r1 : RL} {x : Rat} {K : Nat} {r2 : RL} {y : Rat} {L : Nat} (d : Dat u w) (hr1 : RatV u r1 x K) (hr2 : RatV u r2 y L) (hK : K ≤ 100000000) (hL : L ≤ 100000000) : Calls Tryz.prog 25 #[r1.v, r2.v] w (Post u w fun v u' => ∃ r : RL, v = r.v ∧ RatN u' r (x * y) (K + L + 1)) := by
 refine zzl (args := [r1.v, r2.v]) Tryz.func25 rfl Tryz.ntmps25 (rs := [.cell 4 26]) Tryz.results25 (le_b rfl) (le_b rfl) d ?_
 refine sq9 (zzj 2 ⟨26, r1.cs⟩ (zzj 3 ⟨26, r2.cs⟩ (zzj 4 ⟨26, zw3⟩ (zzb (sq9 (zzh 10 (.v (r1.v)) ty26 zze (zzg 11 92 _ fun _ _ ar aI => Post.mono (k_parts aI (hr1.ext ar) xq) ?_)))))))
 rintro _ u13 aC ⟨ab, ae, z12, D12, rfl, an, ai, aF, af, aH⟩
 refine zza 9 (.v (.tuple #[ab.v, ae.v])) (zza 12 (.v (ab.v)) (zza 13 (.v (ae.v)) (zzj 5 ⟨24, [.bool false, .slice none 0 0]⟩ (zzj 6 ⟨24, [.bool false, .slice none 0 0]⟩ (zzi ⟨24, ab.cs⟩ ty24 ?_)))))
 refine zzi ⟨24, ae.cs⟩ ty24 ?_
 refine zzb (sq9 (zzh 15 (.v (r2.v)) ty26 zze (zzg 16 92 _ fun _ _ aj aE => Post.mono (k_parts aE (hr2.ext (ar.t (aC.t aj))) xq) ?_)))
 rintro _ u18 ap ⟨aa, ad, z17, D17, rfl, al, am, ax, ak, av⟩
 refine zza 14 (.v (.tuple #[aa.v, ad.v])) (zza 17 (.v (aa.v)) (zza 18 (.v (ad.v)) (zzj 7 ⟨24, [.bool false, .slice none 0 0]⟩ (zzj 8 ⟨24, [.bool false, .slice none 0 0]⟩ (zzi ⟨24, aa.cs⟩ ty24 ?_)))))
 refine zzi ⟨24, ad.cs⟩ ty24 ?_
 refine zzb (zzd (zzy [0, 0, 3, 0, 0, 31, 63, 127] [(0, []), (1, []), (3, []), (4, []), (2, []), (5, []), (6, []), (7, [])] xj xj (zzh 19 (.v (ab.v)) ty24 zze (zzh 20 (.v (aa.v)) ty24 zze (zzh 22 (.v (ae.v)) ty24 zze (zzh 23 (.v (ad.v)) ty24 zze (zzg 21 94 _ fun _ _ ac ay => Post.mono (k_riMul ay (an.ext (aj.t (ap.t ac))) (al.ext ac) xq xq) ?_)))))))
 rintro _ u24 aq ⟨i22, rfl, aA⟩
 refine zzg 24 94 _ fun _ _ ag aD => Post.mono (k_riMul aD (ai.ext (aj.t (ap.t (ac.t (aq.t ag))))).raw (am.ext (ac.t (aq.t ag))).raw xq xq) ?_
 rintro _ u30 aG ⟨i28, rfl, aw⟩
 refine zzg 25 93 _ fun _ _ ao au => Post.mono (k_reduce au (aA.ext (ag.t (aG.t ao))).raw (aw.ext ao).raw xq xq) ?_
 rintro _ u36 g37 ⟨ah, rfl, az⟩
 refine zzi ⟨26, ah.cs⟩ ty26 ?_
 refine zzb (zzn (ret0 [ah.v] ⟨zzq ty26 zze, trivial⟩ fun u39 aB => ?_))
 refine ⟨ah, rfl, RatN.more (K := (max (K + L) (K + L) + 1)) ?_ xq⟩
 rw [af, ak, ← Nt.mul_div2]
 exact (az.ext aB)
theorem k_rqMin {u w : World} {r1 : RL} {x : Rat} {K : Nat} {r2 : RL} {y : Rat} {L : Nat} (d : Dat u w) (hr1 : RatV u r1 x K) (hr2 : RatV u r2 y L) (hK : K ≤ 100000000) (hL : L ≤ 100000000) : Calls Tryz.prog 134 #[r1.v, r2.v] w (Post u w fun v u' => ∃ r : RL, v = r.v ∧ RatN u' r (Nt.lo x y) (max K L)) := by
 refine zzl (args := [r1.v, r2.v]) Tryz.func134 rfl Tryz.ntmps134 (rs := [.cell 4 26]) Tryz.results134 (le_b rfl) (le_b rfl) d ?_
 refine sq9 (zzj 2 ⟨26, r1.cs⟩ (zzj 3 ⟨26, r2.cs⟩ (zzj 4 ⟨26, zw3⟩ (zzb (zzd (sq9 (zzh 5 (.v (r2.v)) ty26 zze (zzh 6 (.v (r1.v)) ty26 zze (zzg 7 110 _ fun _ _ ab an => Post.mono (k_rqLess an (hr2.ext ab) (hr1.ext ab) xq xq) ?_)))))))))
 rintro _ u12 ae rfl
 refine zzb (zzt (b := decide (y < x)) xj (fun aa => ?_) (fun aa => ?_))
 ·have qhb15 := of_decide_eq_true aa
  refine sq9 (zzh 8 (.v (r2.v)) ty26 zze (zzg 9 90 _ fun _ _ aj am => Post.mono (k_rqTrim am (hr2.ext (ab.t (ae.t aj))) xq) ?_))
  rintro _ u19 g20 ⟨ad, rfl, ak⟩
  refine zzi ⟨26, ad.cs⟩ ty26 ?_
  refine zzb (zzn (zzv (ret0 [ad.v] ⟨zzq ty26 zze, trivial⟩ fun u22 al => ?_)))
  refine ⟨ad, rfl, RatN.more (K := L) ?_ xq⟩
  unfold Nt.lo
  rw [if_pos (of_decide_eq_true aa)]
  exact (ak.ext al)
 have qhb15 := of_decide_eq_false aa
 refine zzr (zzo ?_)
 refine sq9 (zzh 10 (.v (r1.v)) ty26 zze (zzg 11 90 _ fun _ _ af ai => Post.mono (k_rqTrim ai (hr1.ext (ab.t (ae.t af))) xq) ?_))
 rintro _ u27 g28 ⟨ac, rfl, ah⟩
 refine zzi ⟨26, ac.cs⟩ ty26 ?_
 refine zzb (zzn (ret0 [ac.v] ⟨zzq ty26 zze, trivial⟩ fun u30 ag => ?_))
 refine ⟨ac, rfl, RatN.more (K := K) ?_ xq⟩
 unfold Nt.lo
 rw [if_neg (of_decide_eq_false aa)]
 exact (ah.ext ag)
theorem k_rqMax {u w : World} {r1 : RL} {x : Rat} {K : Nat} {r2 : RL} {y : Rat} {L : Nat} (d : Dat u w) (hr1 : RatV u r1 x K) (hr2 : RatV u r2 y L) (hK : K ≤ 100000000) (hL : L ≤ 100000000) : Calls Tryz.prog 135 #[r1.v, r2.v] w (Post u w fun v u' => ∃ r : RL, v = r.v ∧ RatN u' r (Nt.hi x y) (max K L)) := by
 refine zzl (args := [r1.v, r2.v]) Tryz.func135 rfl Tryz.ntmps135 (rs := [.cell 4 26]) Tryz.results135 (le_b rfl) (le_b rfl) d ?_
 refine sq9 (zzj 2 ⟨26, r1.cs⟩ (zzj 3 ⟨26, r2.cs⟩ (zzj 4 ⟨26, zw3⟩ (zzb (zzd (sq9 (zzh 5 (.v (r1.v)) ty26 zze (zzh 6 (.v (r2.v)) ty26 zze (zzg 7 110 _ fun _ _ ab an => Post.mono (k_rqLess an (hr1.ext ab) (hr2.ext ab) xq xq) ?_)))))))))
 rintro _ u12 ae rfl
 refine zzb (zzt (b := decide (x < y)) xj (fun aa => ?_) (fun aa => ?_))
 ·have qhb15 := of_decide_eq_true aa
  refine sq9 (zzh 8 (.v (r2.v)) ty26 zze (zzg 9 90 _ fun _ _ aj am => Post.mono (k_rqTrim am (hr2.ext (ab.t (ae.t aj))) xq) ?_))
  rintro _ u19 g20 ⟨ad, rfl, ak⟩
  refine zzi ⟨26, ad.cs⟩ ty26 ?_
  refine zzb (zzn (zzv (ret0 [ad.v] ⟨zzq ty26 zze, trivial⟩ fun u22 al => ?_)))
  refine ⟨ad, rfl, RatN.more (K := L) ?_ xq⟩
  unfold Nt.hi
  rw [if_pos (of_decide_eq_true aa)]
  exact (ak.ext al)
 have qhb15 := of_decide_eq_false aa
 refine zzr (zzo ?_)
 refine sq9 (zzh 10 (.v (r1.v)) ty26 zze (zzg 11 90 _ fun _ _ af ai => Post.mono (k_rqTrim ai (hr1.ext (ab.t (ae.t af))) xq) ?_))
 rintro _ u27 g28 ⟨ac, rfl, ah⟩
 refine zzi ⟨26, ac.cs⟩ ty26 ?_
 refine zzb (zzn (ret0 [ac.v] ⟨zzq ty26 zze, trivial⟩ fun u30 ag => ?_))
 refine ⟨ac, rfl, RatN.more (K := K) ?_ xq⟩
 unfold Nt.hi
 rw [if_neg (of_decide_eq_false aa)]
 exact (ah.ext ag)
def DivQ (x y : Rat) (K : Nat) (v : Value) (u : World) : Prop := (v = .tuple #[.agg #[.bool false, .slice none 0 0, .slice none 0 0], .int .i64 3] ∧ y = 0) ∨ (y ≠ 0 ∧ ∃ r : RL, v = .tuple #[r.v, .int .i64 0] ∧ RatN u r (x / y) K)
set_option maxHeartbeats 1000000 in
theorem k_rqDiv {u w : World} {r1 : RL} {x : Rat} {K : Nat} {r2 : RL} {y : Rat} {L : Nat} (d : Dat u w) (hr1 : RatV u r1 x K) (hr2 : RatV u r2 y L) (hK : K ≤ 100000000) (hL : L ≤ 100000000) : Calls Tryz.prog 168 #[r1.v, r2.v] w (Post u w fun v u' => DivQ x y (K + L + 1) v u') := by
 refine zzl (args := [r1.v, r2.v]) Tryz.func168 rfl Tryz.ntmps168 (rs := [.cell 4 26, .tmp 5]) Tryz.results168 (le_b rfl) (le_b rfl) d ?_
 refine sq9 (zzj 2 ⟨26, r1.cs⟩ (zzj 3 ⟨26, r2.cs⟩ (zzj 4 ⟨26, zw3⟩ (zza 5 (zI 0) (zzb (sq9 (zzh 11 (.v (r1.v)) ty26 zze (zzg 12 92 _ fun _ _ aA aO => Post.mono (k_parts aO (hr1.ext aA) xq) ?_))))))))
 rintro _ u13 aH ⟨ag, ak, z12, D12, rfl, av, ao, ar, al, aM⟩
 refine zza 10 (.v (.tuple #[ag.v, ak.v])) (zza 13 (.v (ag.v)) (zza 14 (.v (ak.v)) (zzj 6 ⟨24, [.bool false, .slice none 0 0]⟩ (zzj 7 ⟨24, [.bool false, .slice none 0 0]⟩ (zzi ⟨24, ag.cs⟩ ty24 ?_)))))
 refine zzi ⟨24, ak.cs⟩ ty24 ?_
 refine zzb (sq9 (zzh 16 (.v (r2.v)) ty26 zze (zzg 17 92 _ fun _ _ ap aL => Post.mono (k_parts aL (hr2.ext (aA.t (aH.t ap))) xq) ?_)))
 rintro _ u18 ax ⟨ac, aj, am, D17, rfl, ae, au, an, ab, aB⟩
 refine zza 15 (.v (.tuple #[ac.v, aj.v])) (zza 18 (.v (ac.v)) (zza 19 (.v (aj.v)) (zzj 8 ⟨24, [.bool false, .slice none 0 0]⟩ (zzj 9 ⟨24, [.bool false, .slice none 0 0]⟩ (zzi ⟨24, ac.cs⟩ ty24 ?_)))))
 refine zzi ⟨24, aj.cs⟩ ty24 ?_
 refine zzb (zzd (sq9 (zzh 20 (.v (ac.v)) ty24 zze (zzg 21 98 _ fun _ _ ad aC => Post.mono (k_riSign aC (ae.ext ad) xq) ?_))))
 rintro _ u22 ai rfl
 refine zza 22 (zB ((Nt.cmpS am 0) == 0)) (zzb (zzt (b := (Nt.cmpS am 0) == 0) xj (fun aa => ?_) (fun aa => ?_)))
 ·refine sq9 (zza 23 (.v (.agg #[.bool false, .slice none 0 0, .slice none 0 0])) (zzi ⟨26, zw3⟩ ty26 ?_))
  refine zza 5 (zI 3) (zzb (zzn (zzv (ret0 [.agg #[.bool false, .slice none 0 0, .slice none 0 0], .int .i64 3] ⟨zzq ty26 zze, zzp, trivial⟩ fun u26 e27 => ?_))))
  left
  exact ⟨rfl, by rw [ab, Nt.cmp_eq0 aa, Rat.zero_mkRat]⟩
 have az : am ≠ 0 := Nt.cmp_ne0 aa
 refine zzr (zzo ?_)
 refine zzd (zzy [0, 0, 3, 0, 0, 31, 63, 127, 255] [(0, []), (1, []), (3, []), (4, []), (2, []), (5, []), (6, []), (7, []), (8, [])] xj xj (zzh 24 (.v (ag.v)) ty24 zze (zzh 25 (.v (aj.v)) ty24 zze (zzh 27 (.v (ak.v)) ty24 zze (zzh 28 (.v (ac.v)) ty24 zze (zzg 26 94 _ fun _ _ af aD => Post.mono (k_riMul aD (av.ext (ap.t (ax.t (ad.t (ai.t af))))) (au.ext (ad.t (ai.t af))).raw xq xq) ?_))))))
 rintro _ u31 aw ⟨i29, rfl, aK⟩
 refine zzg 29 94 _ fun _ _ aq aN => Post.mono (k_riMul aN (ao.ext (ap.t (ax.t (ad.t (ai.t (af.t (aw.t aq))))))).raw (ae.ext (ad.t (ai.t (af.t (aw.t aq))))) xq xq) ?_
 rintro _ u37 aF ⟨i35, rfl, aJ⟩
 refine zzg 30 93 _ fun _ _ ay aG => Post.mono (k_reduce aG (aK.ext (aq.t (aF.t ay))).raw (aJ.ext ay).raw xq xq) ?_
 rintro _ u43 g44 ⟨ah, rfl, aI⟩
 refine zzi ⟨26, ah.cs⟩ ty26 ?_
 refine zza 5 (zI 0) (zzc 31 [(4, .adr 4 0), (5, zI 0)] [(4, ⟨26, ah.cs⟩)] (zzn (ret0 [ah.v, .int .i64 0] ⟨zzq ty26 zze, zzp, trivial⟩ fun u46 aE => ?_)))
 right
 refine ⟨?_, ah, rfl, RatN.more (K := (max (K + L) (K + L) + 1)) ?_ xq⟩
 ·rw [ab]; exact (Rat.mkRat_ne_zero xq).2 az
 rw [al, ab, ← Nt.quo_mk ar an az]
 exact (aI.ext aE)
theorem k_rqOver {u w : World} {r1 : RL} {x : Rat} {K : Nat} {r2 : RL} {y : Rat} {L : Nat} (d : Dat u w) (hr1 : RatV u r1 x K) (hr2 : RatV u r2 y L) (hK : K ≤ 100000000) (hL : L ≤ 100000000) : Calls Tryz.prog 88 #[r1.v, r2.v] w (Post u w fun v u' => ∃ r : RL, v = r.v ∧ RatN u' r (x / y) (K + L + 2)) := by
 refine zzl (args := [r1.v, r2.v]) Tryz.func88 rfl Tryz.ntmps88 (rs := [.cell 4 26]) Tryz.results88 (le_b rfl) (le_b rfl) d ?_
 refine sq9 (zzj 2 ⟨26, r1.cs⟩ (zzj 3 ⟨26, r2.cs⟩ (zzj 4 ⟨26, zw3⟩ (zzb (sq9 (zzh 8 (.v (r1.v)) ty26 zze (zzh 9 (.v (r2.v)) ty26 zze (zzg 10 168 _ fun _ _ ad aj => Post.mono (k_rqDiv aj (hr1.ext ad) (hr2.ext ad) xq xq) ?_))))))))
 rintro _ u15 g16 (⟨rfl, ab⟩ | ⟨ab, aa, rfl, ag⟩)
 ·skip
  refine zza 7 (.v (.tuple #[.agg #[.bool false, .slice none 0 0, .slice none 0 0], .int .i64 3])) (zza 11 (.v (.agg #[.bool false, .slice none 0 0, .slice none 0 0])) (zza 12 (zI 3) (zzj 5 ⟨26, zw3⟩ (zzi ⟨26, zw3⟩ ty26 ?_))))
  refine zza 6 (zI 3) (zzb (zzd (sq9 (zza 13 (zI 3) (zza 14 (zB true) (zzb (zyq xj (sq9 (zzg 15 30 _ fun _ _ _ ah => Post.mono (k_rqOf ah (z := 0) xq xq) ?_)))))))))
  rintro _ u21 g22 ⟨ac, rfl, af⟩
  refine zzi ⟨26, ac.cs⟩ ty26 ?_
  refine zzb (zzn (zzv (ret0 [ac.v] ⟨zzq ty26 zze, trivial⟩ fun u24 ae => ?_)))
  refine ⟨ac, rfl, RatN.more (K := 2) ?_ xq⟩
  rw [ab, Rat.div_def, Rat.inv_zero, Rat.mul_zero]
  exact (af.ext ae)
 refine zza 7 (.v (.tuple #[aa.v, .int .i64 0])) (zza 11 (.v (aa.v)) (zza 12 (zI 0) (zzj 5 ⟨26, zw3⟩ (zzi ⟨26, aa.cs⟩ ty26 ?_))))
 refine zza 6 (zI 0) (zzb (zzd (sq9 (zza 13 (zI 0) (zza 14 (zB false) (zzb (zyr xj (zzr (zzo ?_)))))))))
 refine sq9 (zzh 16 (.v (aa.v)) ty26 zze (zzi ⟨26, aa.cs⟩ ty26 ?_))
 refine zzb (zzn (ret0 [aa.v] ⟨zzq ty26 zze, trivial⟩ fun u26 ai => ?_))
 refine ⟨aa, rfl, RatN.more (K := (K + L + 1)) ?_ xq⟩
 exact (ag.ext ai)
theorem k_signed {u w : World} {s : Bool} {x : Sl} {N K : Nat} (d : Dat u w) (h : NatN u x N K) : Calls Tryz.prog 222 #[.bool s, x.v] w (Post u w fun v u' => ∃ i : IL, v = i.v ∧ IntN u' i (Nt.sg s N) K) := by
 refine zzl (args := [.bool s, x.v]) Tryz.func222 rfl Tryz.ntmps222 (rs := [.cell 4 24]) Tryz.results222 (le_b rfl) (le_b rfl) d ?_
 refine sq9 (zzj 4 ⟨24, [.bool false, .slice none 0 0]⟩ (zzb (sq9 (zza 5 (zB s) ?_))))
 rcases Bool.eq_false_or_eq_true s with hs11 | hs11
 ·refine zyp 6 (x := zB s) (zB true) (by rw [hs11]) (zza 7 (.v (x.v)) ?_ (hw := w1 1 true 6))
  refine zza 8 (zI x.n) ?_ (hw := w1 1 true 6)
  refine zza 9 (zB (decide ((0 : Int) < (x.n : Int)))) ?_ (hw := w1 1 true 6)
  refine zza 10 (zB (decide ((0 : Int) < (x.n : Int)))) (zza 11 (.v (x.v)) (zza 12 (.v (.agg #[.bool (decide ((0 : Int) < (x.n : Int))), x.v])) (zzi ⟨24, [.bool (decide ((0 : Int) < (x.n : Int))), x.v]⟩ ty24 ?_)))
  refine zzb (zzn (ret0 [.agg #[.bool (decide ((0 : Int) < (x.n : Int))), .slice x.a x.n x.c]] ⟨zzq ty24 zze, trivial⟩ fun u12 aa => ?_))
  rw [hs11]
  exact ⟨⟨_, x⟩, rfl, signed_int (s := true) (h.ext aa)⟩
 refine zyp 6 (x := zB s) (zB false) (by rw [hs11]) (zzm 7 (uw 1 true false 6) (zzm 8 (uw 1 true false 6) (zzm 9 (uw 1 true false 6) (zza 10 (zB false) (zza 11 (.v (x.v)) (zza 12 (.v (.agg #[.bool false, x.v])) (zzi ⟨24, [.bool false, x.v]⟩ ty24 ?_)))))))
 refine zzb (zzn (ret0 [.agg #[.bool false, .slice x.a x.n x.c]] ⟨zzq ty24 zze, trivial⟩ fun u14 ab => ?_))
 rw [hs11]
 exact ⟨⟨_, x⟩, rfl, signed_int (s := false) (h.ext ab)⟩
theorem k_intTrim {u w : World} {i1 : IL} {zN : Int} {K : Nat} (d : Dat u w) (hi1 : IntV u i1 zN K) (hK : K ≤ 500000000) : Calls Tryz.prog 211 #[i1.v] w (Post u w fun v u' => ∃ i : IL, v = i.v ∧ IntN u' i zN K) := by
 obtain ⟨N, hN, hzN⟩ := hi1
 refine zzl (args := [i1.v]) Tryz.func211 rfl Tryz.ntmps211 (rs := [.cell 2 24]) Tryz.results211 (le_b rfl) (le_b rfl) d ?_
 refine sq9 (zzj 1 ⟨24, i1.cs⟩ (zzj 2 ⟨24, [.bool false, .slice none 0 0]⟩ (zzb (zzd (zzy [0, 1, 0, 4, 12, 31, 63] [(0, []), (1, []), (2, []), (3, []), (4, []), (5, []), (6, [])] xj xj (zza 3 (.adr 1 0) (zzh 4 (zB i1.s) ty4 zzk (zza 5 (.adr 1 1) (zzh 6 (.v (i1.m.v)) ty22 zzk (zzg 7 214 _ fun _ _ ae ag => Post.mono (k_natTrim ag (hN.ext ae) xq) ?_))))))))))
 rintro _ u14 g15 ⟨x12, rfl, ah⟩
 refine zzg 8 222 _ fun _ _ af ac => Post.mono (k_signed ac (s := i1.s) (ah.ext af)) ?_
 rintro _ u20 g21 ⟨aa, rfl, ab⟩
 refine zzi ⟨24, aa.cs⟩ ty24 ?_
 refine zzb (zzn (ret0 [aa.v] ⟨zzq ty24 zze, trivial⟩ fun u23 ad => ?_))
 refine ⟨aa, rfl, IntN.more (K := K) ?_ xq⟩
 rw [hzN]
 exact (ab.ext ad)
theorem k_intMul {u w : World} {i1 : IL} {zN : Int} {K : Nat} {i2 : IL} {zM : Int} {L : Nat} (d : Dat u w) (hi1 : IntV u i1 zN K) (hi2 : IntV u i2 zM L) (hK : K ≤ 500000000) (hL : L ≤ 500000000) : Calls Tryz.prog 194 #[i1.v, i2.v] w (Post u w fun v u' => ∃ i : IL, v = i.v ∧ IntN u' i (zN * zM) (K + L)) := by
 obtain ⟨N, hN, hzN⟩ := hi1
 obtain ⟨M, hM, hzM⟩ := hi2
 refine zzl (args := [i1.v, i2.v]) Tryz.func194 rfl Tryz.ntmps194 (rs := [.cell 4 24]) Tryz.results194 (le_b rfl) (le_b rfl) d ?_
 refine sq9 (zzj 2 ⟨24, i1.cs⟩ (zzj 3 ⟨24, i2.cs⟩ (zzj 4 ⟨24, [.bool false, .slice none 0 0]⟩ (zzb (zzd (zzy [0, 1, 0, 4, 15, 0, 32, 0, 128, 480, 1023, 2047] [(0, []), (1, []), (2, []), (3, []), (4, []), (5, []), (6, []), (7, []), (8, []), (9, []), (10, []), (11, [])] xj xj (zza 5 (.adr 2 0) (zzh 6 (zB i1.s) ty4 zzk (zza 7 (.adr 3 0) (zzh 8 (zB i2.s) ty4 zzk (zza 9 (zB (!(i1.s == i2.s))) ?_)))))))))))
 refine zza 10 (.adr 2 1) (zzh 11 (.v (i1.m.v)) ty22 zzk (zza 12 (.adr 3 1) (zzh 13 (.v (i2.m.v)) ty22 zzk (zzg 14 156 _ fun _ _ ab ah => Post.mono (k_natMul ah (hN.ext ab) (hM.ext ab) xq xq) ?_))))
 rintro _ u14 g15 ⟨x12, rfl, af⟩
 refine zzg 15 222 _ fun _ _ ag ad => Post.mono (k_signed ad (s := !(i1.s == i2.s)) (af.ext ag)) ?_
 rintro _ u20 g21 ⟨aa, rfl, ac⟩
 refine zzi ⟨24, aa.cs⟩ ty24 ?_
 refine zzb (zzn (ret0 [aa.v] ⟨zzq ty24 zze, trivial⟩ fun u23 ae => ?_))
 refine ⟨aa, rfl, IntN.more (K := (K + L)) ?_ xq⟩
 rw [hzN, hzM, ← Nt.sg_mul]
 exact (ac.ext ae)
theorem k_intAdd {u w : World} {i1 : IL} {zN : Int} {K : Nat} {i2 : IL} {zM : Int} {L : Nat} (d : Dat u w) (hi1 : IntV u i1 zN K) (hi2 : IntV u i2 zM L) (hK : K ≤ 500000000) (hL : L ≤ 500000000) : Calls Tryz.prog 159 #[i1.v, i2.v] w (Post u w fun v u' => ∃ i : IL, v = i.v ∧ IntN u' i (zN + zM) (max K L + 1)) := by
 obtain ⟨N, hN, hzN⟩ := hi1
 obtain ⟨M, hM, hzM⟩ := hi2
 refine zzl (args := [i1.v, i2.v]) Tryz.func159 rfl Tryz.ntmps159 (rs := [.cell 4 24]) Tryz.results159 (le_b rfl) (le_b rfl) d ?_
 refine sq9 (zzj 2 ⟨24, i1.cs⟩ (zzj 3 ⟨24, i2.cs⟩ (zzj 4 ⟨24, [.bool false, .slice none 0 0]⟩ (zzb (zzd (sq9 (zza 5 (.adr 2 0) (zzh 6 (zB i1.s) ty4 zzk (zza 7 (.adr 3 0) (zzh 8 (zB i2.s) ty4 zzk (zza 9 (zB (i1.s == i2.s)) ?_)))))))))))
 refine zzb (zzt (b := i1.s == i2.s) xj (fun aa => ?_) (fun aa => ?_))
 ·refine zzd (zzy [0, 1, 0, 4, 0, 16, 60, 127, 255] [(0, []), (1, []), (2, []), (3, []), (4, []), (5, []), (6, []), (7, []), (8, [])] xj xj (zza 10 (.adr 2 0) (zzh 11 (zB i1.s) ty4 zzk (zza 12 (.adr 2 1) (zzh 13 (.v (i1.m.v)) ty22 zzk (zza 14 (.adr 3 1) (zzh 15 (.v (i2.m.v)) ty22 zzk (zzg 16 155 _ fun _ _ ai an => Post.mono (k_natAdd an (hN.ext ai) (hM.ext ai) xq xq) ?_))))))))
  rintro _ u15 g16 ⟨x13, rfl, aC⟩
  refine zzg 17 222 _ fun _ _ ay az => Post.mono (k_signed az (s := i1.s) (aC.ext ay)) ?_
  rintro _ u21 g22 ⟨ag, rfl, aq⟩
  refine zzi ⟨24, ag.cs⟩ ty24 ?_
  refine zzb (zzn (zzv (ret0 [ag.v] ⟨zzq ty24 zze, trivial⟩ fun u24 am => ?_)))
  refine ⟨ag, rfl, IntN.more (K := (max K L + 1)) ?_ xq⟩
  rw [hzN, hzM, ← Nt.sg_add1 N M aa]
  exact (aq.ext am)
 refine zzr (zzo ?_)
 refine zzd (sq9 (zza 18 (.adr 2 1) (zzh 19 (.v (i1.m.v)) ty22 zzk (zza 20 (.adr 3 1) (zzh 21 (.v (i2.m.v)) ty22 zzk (zzg 22 83 _ fun _ _ ac ao => Post.mono (k_natCompare ao (hN.ext ac) (hM.ext ac)) ?_))))))
 rintro _ u27 ad rfl
 refine zza 23 (zB ((Nt.cmpS N M) == (-1))) (zzb (zzt (b := (Nt.cmpS N M) == (-1)) xj (fun ab => ?_) (fun ab => ?_)))
 ·refine zzd (zzy [0, 1, 0, 4, 0, 16, 60, 127, 255] [(0, []), (1, []), (2, []), (3, []), (4, []), (5, []), (6, []), (7, []), (8, [])] xj xj (zza 24 (.adr 3 0) (zzh 25 (zB i2.s) ty4 zzk (zza 26 (.adr 3 1) (zzh 27 (.v (i2.m.v)) ty22 zzk (zza 28 (.adr 2 1) (zzh 29 (.v (i1.m.v)) ty22 zzk (zzg 30 223 _ fun _ _ ah aB => Post.mono (k_natSub aB (hM.ext (ac.t (ad.t ah))) (hN.ext (ac.t (ad.t ah))) xq xq) ?_))))))))
  rintro _ u34 g35 ⟨x32, rfl, ap⟩
  refine zzg 31 222 _ fun _ _ ax aE => Post.mono (k_signed aE (s := i2.s) (ap.ext ax)) ?_
  rintro _ u40 g41 ⟨af, rfl, al⟩
  refine zzi ⟨24, af.cs⟩ ty24 ?_
  refine zzb (zzn (zzv (ret0 [af.v] ⟨zzq ty24 zze, trivial⟩ fun u43 av => ?_)))
  refine ⟨af, rfl, IntN.more (K := L) ?_ xq⟩
  rw [hzN, hzM, ← Nt.sg_add2 N M aa ab]
  exact (al.ext av)
 refine zzr (zzo ?_)
 refine zzd (zzy [0, 1, 0, 4, 0, 16, 60, 127, 255] [(0, []), (1, []), (2, []), (3, []), (4, []), (5, []), (6, []), (7, []), (8, [])] xj xj (zza 32 (.adr 2 0) (zzh 33 (zB i1.s) ty4 zzk (zza 34 (.adr 2 1) (zzh 35 (.v (i1.m.v)) ty22 zzk (zza 36 (.adr 3 1) (zzh 37 (.v (i2.m.v)) ty22 zzk (zzg 38 223 _ fun _ _ aj au => Post.mono (k_natSub au (hN.ext (ac.t (ad.t aj))) (hM.ext (ac.t (ad.t aj))) xq xq) ?_))))))))
 rintro _ u48 g49 ⟨x46, rfl, aA⟩
 refine zzg 39 222 _ fun _ _ aw aD => Post.mono (k_signed aD (s := i1.s) (aA.ext aw)) ?_
 rintro _ u54 g55 ⟨ae, rfl, ar⟩
 refine zzi ⟨24, ae.cs⟩ ty24 ?_
 refine zzb (zzn (ret0 [ae.v] ⟨zzq ty24 zze, trivial⟩ fun u57 ak => ?_))
 refine ⟨ae, rfl, IntN.more (K := K) ?_ xq⟩
 rw [hzN, hzM, ← Nt.sg_add3 N M aa ab]
 exact (ar.ext ak)
theorem k_intSign {u w : World} {i1 : IL} {zN : Int} {K : Nat} (d : Dat u w) (hi1 : IntV u i1 zN K)  : Calls Tryz.prog 146 #[i1.v] w (Post u w fun v u' => v = .int .i64 (Nt.cmpS zN 0)) := by
 obtain ⟨N, hN, hzN⟩ := hi1
 refine zzl (args := [i1.v]) Tryz.func146 rfl Tryz.ntmps146 (rs := [.tmp 2]) Tryz.results146 (le_b rfl) (le_b rfl) d ?_
 refine sq9 (zzj 1 ⟨24, i1.cs⟩ (zza 2 (zI 0) (zzb (zzd (zzs (sq9 (zza 4 (.adr 1 1) (zzh 5 (.v (i1.m.v)) ty22 zzk (zzg 6 83 _ fun _ _ ac ad => Post.mono (k_natCompare ad (hN.ext ac) (nat_nil _ 1)) ?_)))))))))
 rintro _ u12 g13 rfl
 refine zza 7 (zB ((Nt.cmpS N 0) == 0)) (zza 3 (zB ((Nt.cmpS N 0) == 0)) (zzb (zzt (b := (Nt.cmpS N 0) == 0) xj (fun ab => ?_) (fun ab => ?_))))
 ·refine sq9 (zza 2 (zI 0) (zzb (zzn (zyt (zzv (ret0 [.int .i64 0] ⟨zzp, trivial⟩ fun u16 e17 => ?_))))))
  show _ = _
  rw [hzN, Nt.sg_cmp0, if_pos ab]
  rfl
 refine sq9 (zza 9 (.adr 1 0) (zzh 10 (zB i1.s) ty4 zzk (zza 8 (zB i1.s) (zzb (zzt (b := i1.s) xj (fun aa => ?_) (fun aa => ?_))))))
 ·replace aa : i1.s = true := aa
  refine sq9 (zza 2 (zI (-1)) (zzb (zzn (zyt (zzv (ret0 [.int .i64 (-1)] ⟨zzp, trivial⟩ fun u19 e20 => ?_))))))
  show _ = _
  rw [hzN, Nt.sg_cmp0, if_neg (ne_true_of_eq_false ab), if_pos aa]
  rfl
 replace aa : i1.s = false := aa
 refine zzr (zzo ?_)
 refine sq9 (zza 2 (zI 1) (zzb (zzn (ret0 [.int .i64 1] ⟨zzp, trivial⟩ fun u21 e22 => ?_))))
 show _ = _
 rw [hzN, Nt.sg_cmp0, if_neg (ne_true_of_eq_false ab), if_neg (ne_true_of_eq_false aa)]
 rfl
namespace Nt
theorem cmp_sg (s t : Bool) (N M : Nat) : cmpS (sg s N) (sg t M) = if decide (cmpS (sg s N) 0 < cmpS (sg t M) 0) = true then -1 else if decide (cmpS (sg t M) 0 < cmpS (sg s N) 0) = true then 1 else if (cmpS (sg s N) 0 == -1) = true then cmpS (M : Int) (N : Int) else cmpS (N : Int) (M : Int) := by
 rcases cmp_range (sg s N) 0 with ⟨e, h⟩ | ⟨e, h⟩ | ⟨e, h⟩ <;> rcases cmp_range (sg t M) 0 with ⟨e', h'⟩ | ⟨e', h'⟩ | ⟨e', h'⟩ <;> rw [e, e'] <;> simp
 ·unfold sg at *; cases s <;> cases t <;> simp at h h' ⊢ <;> unfold cmpS <;> (repeat' split) <;> first | rfl | omega
 ·exact cmp_lt xq
 ·exact cmp_lt xq
 ·exact cmp_gt xq
 ·rw [h, h']; unfold sg at *; cases s <;> cases t <;> simp at h h' <;> rw [h, h'] <;> rfl
 ·exact cmp_lt xq
 ·exact cmp_gt xq
 ·exact cmp_gt xq
 unfold sg at *; cases s <;> cases t <;> simp at h h' ⊢ <;> first | rfl | omega
end Nt
theorem k_intCompare {u w : World} {i1 : IL} {zN : Int} {K : Nat} {i2 : IL} {zM : Int} {L : Nat} (d : Dat u w) (hi1 : IntV u i1 zN K) (hi2 : IntV u i2 zM L)  : Calls Tryz.prog 181 #[i1.v, i2.v] w (Post u w fun v u' => v = .int .i64 (Nt.cmpS zN zM)) := by
 obtain ⟨N, hN, hzN⟩ := hi1
 obtain ⟨M, hM, hzM⟩ := hi2
 refine zzl (args := [i1.v, i2.v]) Tryz.func181 rfl Tryz.ntmps181 (rs := [.tmp 4]) Tryz.results181 (le_b rfl) (le_b rfl) d ?_
 refine sq9 (zzj 2 ⟨24, i1.cs⟩ (zzj 3 ⟨24, i2.cs⟩ (zza 4 (zI 0) (zzb (zzd (zzy [0, 1, 0, 7, 15, 31] [(0, []), (2, []), (1, []), (3, []), (4, []), (5, [])] xj xj (zzh 7 (.v (i1.v)) ty24 zze (zzh 9 (.v (i2.v)) ty24 zze (zzg 8 146 _ fun _ _ ad am => Post.mono (k_intSign am (IntV.same (s := i1.s) (hN.ext ad))) ?_)))))))))
 rintro _ u12 ae rfl
 refine zzg 10 146 _ fun _ _ af aj => Post.mono (k_intSign aj (IntV.same (s := i2.s) (hM.ext (ad.t (ae.t af))))) ?_
 rintro _ u16 ag rfl
 refine zza 5 (zI (Nt.cmpS (Nt.sg i1.s N) 0)) (zza 6 (zI (Nt.cmpS (Nt.sg i2.s M) 0)) (zzb (zzd (zzs (sq9 (zza 12 (zI (Nt.cmpS (Nt.sg i1.s N) 0)) (zza 13 (zI (Nt.cmpS (Nt.sg i2.s M) 0)) (zza 14 (zB (decide ((Nt.cmpS (Nt.sg i1.s N) 0) < (Nt.cmpS (Nt.sg i2.s M) 0)))) (zza 11 (zB (decide ((Nt.cmpS (Nt.sg i1.s N) 0) < (Nt.cmpS (Nt.sg i2.s M) 0)))) (zzb (zzt (b := decide ((Nt.cmpS (Nt.sg i1.s N) 0) < (Nt.cmpS (Nt.sg i2.s M) 0))) xj (fun aa => ?_) (fun aa => ?_))))))))))))
 ·have qhb19 := of_decide_eq_true aa
  refine sq9 (zza 4 (zI (-1)) (zzb (zzn (zyt (zzv (ret0 [.int .i64 (-1)] ⟨zzp, trivial⟩ fun u20 e21 => ?_))))))
  show _ = _
  rw [hzN, hzM, Nt.cmp_sg, if_pos aa]
  rfl
 have qhb19 := of_decide_eq_false aa
 refine sq9 (zza 16 (zI (Nt.cmpS (Nt.sg i1.s N) 0)) (zza 17 (zI (Nt.cmpS (Nt.sg i2.s M) 0)) (zza 18 (zB (decide ((Nt.cmpS (Nt.sg i2.s M) 0) < (Nt.cmpS (Nt.sg i1.s N) 0)))) (zza 15 (zB (decide ((Nt.cmpS (Nt.sg i2.s M) 0) < (Nt.cmpS (Nt.sg i1.s N) 0)))) (zzb (zzt (b := decide ((Nt.cmpS (Nt.sg i2.s M) 0) < (Nt.cmpS (Nt.sg i1.s N) 0))) xj (fun ab => ?_) (fun ab => ?_)))))))
 ·have qhb22 := of_decide_eq_true ab
  refine sq9 (zza 4 (zI 1) (zzb (zzn (zyt (zzv (ret0 [.int .i64 1] ⟨zzp, trivial⟩ fun u23 e24 => ?_))))))
  show _ = _
  rw [hzN, hzM, Nt.cmp_sg, if_neg (ne_true_of_eq_false aa), if_pos ab]
  rfl
 have qhb22 := of_decide_eq_false ab
 refine sq9 (zza 20 (zI (Nt.cmpS (Nt.sg i1.s N) 0)) (zza 21 (zB ((Nt.cmpS (Nt.sg i1.s N) 0) == (-1))) (zza 19 (zB ((Nt.cmpS (Nt.sg i1.s N) 0) == (-1))) (zzb (zzt (b := (Nt.cmpS (Nt.sg i1.s N) 0) == (-1)) xj (fun ac => ?_) (fun ac => ?_))))))
 ·refine sq9 (zza 22 (.adr 3 1) (zzh 23 (.v (i2.m.v)) ty22 zzk (zza 24 (.adr 2 1) (zzh 25 (.v (i1.m.v)) ty22 zzk (zzg 26 83 _ fun _ _ ah al => Post.mono (k_natCompare al (hM.ext (ad.t (ae.t (af.t (ag.t ah))))) (hN.ext (ad.t (ae.t (af.t (ag.t ah)))))) ?_)))))
  rintro _ u27 g28 rfl
  refine zza 4 (zI (Nt.cmpS M N)) (zzb (zzn (zyt (zzv (ret0 [.int .i64 (Nt.cmpS M N)] ⟨zzp, trivial⟩ fun u30 e31 => ?_)))))
  show _ = _
  rw [hzN, hzM, Nt.cmp_sg, if_neg (ne_true_of_eq_false aa), if_neg (ne_true_of_eq_false ab), if_pos ac]
  rfl
 refine zzr (zzo ?_)
 refine sq9 (zza 27 (.adr 2 1) (zzh 28 (.v (i1.m.v)) ty22 zzk (zza 29 (.adr 3 1) (zzh 30 (.v (i2.m.v)) ty22 zzk (zzg 31 83 _ fun _ _ ai ak => Post.mono (k_natCompare ak (hN.ext (ad.t (ae.t (af.t (ag.t ai))))) (hM.ext (ad.t (ae.t (af.t (ag.t ai)))))) ?_)))))
 rintro _ u33 g34 rfl
 refine zza 4 (zI (Nt.cmpS N M)) (zzb (zzn (ret0 [.int .i64 (Nt.cmpS N M)] ⟨zzp, trivial⟩ fun u36 e37 => ?_)))
 show _ = _
 rw [hzN, hzM, Nt.cmp_sg, if_neg (ne_true_of_eq_false aa), if_neg (ne_true_of_eq_false ab), if_neg (ne_true_of_eq_false ac)]
 rfl
theorem k_intOf {u w : World} {z : Int} (d : Dat u w) (h0 : -9223372036854775808 ≤ z) (h1 : z ≤ 9223372036854775807) : Calls Tryz.prog 160 #[.int .i64 z] w (Post u w fun v u' => ∃ i : IL, v = i.v ∧ IntN u' i z 2) := by
 by_cases hneg : z < 0
 ·refine zzl (args := [.int .i64 z]) Tryz.func160 rfl Tryz.ntmps160 (rs := [.cell 2 24]) Tryz.results160 (le_b rfl) (le_b rfl) d ?_
  refine sq9 (zzj 2 ⟨24, [.bool false, .slice none 0 0]⟩ (zzb (sq9 (zza 4 (zI z) (zyp 5 (x := .v (.int .u64 (IntKind.u64.wrap z))) (.v (.int .u64 (z + 18446744073709551616))) (by rw [show (IntKind.u64.wrap z) = (z + 18446744073709551616) from (by simp [IntKind.wrap, IntKind.bits, IntKind.signed]; omega)]) (zza 3 (.v (.int .u64 (z + 18446744073709551616))) (zzb (zzd (sq9 (zza 6 (zI z) (zqB 7 (show (decide (z < 0)) = true from zq) ?_)))))))))))
  refine zzb (zyq xj (zzf (zza 8 (.v (.int .u64 (z + 18446744073709551616))) (zyp 9 (x := .v (.int .u64 (IntKind.u64.wrap (0 - (z + 18446744073709551616))))) (.v (.int .u64 (-z))) (by rw [show (IntKind.u64.wrap (0 - (z + 18446744073709551616))) = (-z) from (by simp [IntKind.wrap, IntKind.bits, IntKind.signed]; omega)]) (zza 3 (.v (.int .u64 (-z))) (zzb (sq9 (zza 10 (zI z) (zqB 11 (show (decide (z < 0)) = true from zq) (zza 12 (.v (.int .u64 (-z))) (zyp 13 (x := .v (.int .u32 (IntKind.u32.wrap (-z)))) (.v (.int .u32 ((-z) % 4294967296))) (by rw [show (IntKind.u32.wrap (-z)) = ((-z) % 4294967296) from (IntKind.wrap_u32 _)]) ?_)))))))))))
  refine zza 14 (.v (.int .u64 (-z))) (zyp 15 (x := .v (.int .u64 (Int.fdiv (-z) (2 ^ 32)))) (.v (.int .u64 ((-z) / 4294967296))) (by rw [show (Int.fdiv (-z) (2 ^ 32)) = ((-z) / 4294967296) from (by rw [Int.fdiv_eq_ediv_of_nonneg _ xw]; rfl)]) (zyp 16 (x := .v (.int .u32 (IntKind.u32.wrap ((-z) / 4294967296)))) (.v (.int .u32 ((-z) / 4294967296))) (by rw [show (IntKind.u32.wrap ((-z) / 4294967296)) = ((-z) / 4294967296) from (IntWalk.u32_in _ xq)]) (zxw 17 ⟨104, [.int .u32 ((-z) % 4294967296), .int .u32 ((-z) / 4294967296)]⟩ 2 (fun ak ap an ai => ?_))))
  refine zzg 18 214 [.slice (some ⟨ak, 0, none⟩) 2 2] ?_
  intro w15 u15 ah ac
  have k20 := k_natTrim ac ((two_data (N := z.natAbs) ai xq xq xq).ext ah) xq
  with_reducible refine zPm k20 ?_
  rintro _ ar al ⟨aj, rfl, ad⟩
  refine zzg 19 222 [.bool true, aj.v] ?_
  intro w21 u21 af ae
  have k26 := k_signed ae (s := true) (ad.ext af)
  with_reducible refine zPm k26 ?_
  rintro _ am ao ⟨aa, rfl, ag⟩
  refine zzi ⟨24, aa.cs⟩ ty24 ?_
  refine zzb (zzn (ret0 [aa.v] ⟨zzq ty24 zze, trivial⟩ fun aq ab => ?_))
  refine ⟨aa, rfl, IntN.more (K := 2) ?_ xq⟩
  have e : z = Nt.sg true z.natAbs := by unfold Nt.sg; simp; omega
  rw [e]
  exact (ag.ext ab)
 refine zzl (args := [.int .i64 z]) Tryz.func160 rfl Tryz.ntmps160 (rs := [.cell 2 24]) Tryz.results160 (le_b rfl) (le_b rfl) d ?_
 refine sq9 (zzj 2 ⟨24, [.bool false, .slice none 0 0]⟩ (zzb (sq9 (zza 4 (zI z) (zyp 5 (x := .v (.int .u64 (IntKind.u64.wrap z))) (.v (.int .u64 (z))) (by rw [show (IntKind.u64.wrap z) = z from (by simp [IntKind.wrap, IntKind.bits, IntKind.signed]; omega)]) (zza 3 (.v (.int .u64 z)) (zzb (zzd (sq9 (zza 6 (zI z) (zqB 7 (show (decide (z < 0)) = false from zq) ?_)))))))))))
 refine zzb (zyr xj (zzr (zzo ?_)))
 refine sq9 (zza 10 (zI z) (zqB 11 (show (decide (z < 0)) = false from zq) (zza 12 (.v (.int .u64 z)) (zyp 13 (x := .v (.int .u32 (IntKind.u32.wrap (z)))) (.v (.int .u32 ((z) % 4294967296))) (by rw [show (IntKind.u32.wrap (z)) = ((z) % 4294967296) from (IntKind.wrap_u32 _)]) (zza 14 (.v (.int .u64 z)) (zyp 15 (x := .v (.int .u64 (Int.fdiv (z) (2 ^ 32)))) (.v (.int .u64 ((z) / 4294967296))) (by rw [show (Int.fdiv (z) (2 ^ 32)) = ((z) / 4294967296) from (by rw [Int.fdiv_eq_ediv_of_nonneg _ xw]; rfl)]) (zyp 16 (x := .v (.int .u32 (IntKind.u32.wrap ((z) / 4294967296)))) (.v (.int .u32 ((z) / 4294967296))) (by rw [show (IntKind.u32.wrap ((z) / 4294967296)) = ((z) / 4294967296) from (IntWalk.u32_in _ xq)]) (zxw 17 ⟨104, [.int .u32 ((z) % 4294967296), .int .u32 ((z) / 4294967296)]⟩ 2 (fun ak ap an ai => ?_)))))))))
 refine zzg 18 214 _ fun _ _ ah ac => Post.mono (k_natTrim ac ((two_data (N := z.natAbs) ai xq xq xq).ext ah) xq) ?_
 rintro _ ar al ⟨aj, rfl, ad⟩
 refine zzg 19 222 _ fun _ _ af ae => Post.mono (k_signed ae (s := false) (ad.ext af)) ?_
 rintro _ am ao ⟨aa, rfl, ag⟩
 refine zzi ⟨24, aa.cs⟩ ty24 ?_
 refine zzb (zzn (ret0 [aa.v] ⟨zzq ty24 zze, trivial⟩ fun aq ab => ?_))
 refine ⟨aa, rfl, IntN.more (K := 2) ?_ xq⟩
 have e : z = Nt.sg false z.natAbs := by unfold Nt.sg; simp; omega
 rw [e]
 exact (ag.ext ab)
end Go.Proofs.YtbolmkfphieogaaGreat

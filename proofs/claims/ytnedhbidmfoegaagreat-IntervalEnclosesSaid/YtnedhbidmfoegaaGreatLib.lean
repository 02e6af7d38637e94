/- Words for memory: slices of integers that are read, blocks of integers that are known whole. No program in sight. -/
import Derived.WalkKit
import Derived.Lib.Hide
import Derived.Deep.Draws
import Derived.Deep.AppendLies
import Derived.Maps.AppendAt
namespace Go.Proofs.YtnedhbidmfoegaaGreat
open Go.RowKit

/-- The slice value '.slice A n c' reads as the integers l (of kind k) in the world w. -/
def SlR (k : IntKind) (w : World) (A : Option Addr) (n c : Nat) (l : List Int) : Prop :=
  l.length = n ∧ n ≤ c ∧ c ≤ maxLen ∧ (0 < n → ∃ b o, A = some ⟨b, o, none⟩ ∧ b < w.heap.size ∧ ∀ i, i < n → w.cell? ⟨b, o + i, none⟩ = some (.int k (l[i]?.getD 0)))

/-- Block g is just the integers l (of kind k), of element type t, none frozen. -/
def KBlk (k : IntKind) (w : World) (g : Nat) (t : TypeId) (l : List Int) : Prop := w.heap[g]? = some (.cells (l.map (Value.int k)).toArray t (0, 0))

section
variable {k : IntKind} {w w' : World} {g b o n c B : Nat} {t : TypeId} {l : List Int} {A : Option Addr}

theorem KBlk.lt (h : KBlk k w g t l) : g < w.heap.size := by
  rcases Nat.lt_or_ge g w.heap.size with hlt | hge
  · exact hlt
  · unfold KBlk at h; rw [Array.getElem?_eq_none hge] at h; cases h
theorem KBlk.cell (h : KBlk k w g t l) {i : Nat} (hi : i < l.length) : w.cell? ⟨g, i, none⟩ = some (.int k (l[i]?.getD 0)) := by
  rw [cell_of_row w g i _ t (0, 0) h]
  simp [hi]
theorem KBlk.frozen (h : KBlk k w g t l) (i : Nat) : w.frozen? ⟨g, i, none⟩ = false := by
  unfold KBlk at h
  simp [World.frozen?, h]
theorem KBlk.set (h : KBlk k w g t l) (i : Nat) (x : Int) : KBlk k (w.setCell ⟨g, i, none⟩ (.int k x)) g t (l.set i x) := by
  unfold KBlk at h ⊢
  simp [World.setCell, Array.getElem?_modify, h, List.map_set]
theorem KBlk.far (h : KBlk k w g t l) {p : Addr} (hp : g ≠ p.block) (u : Value) : KBlk k (w.setCell p u) g t l := (Below.heap_setCell w p u g hp).trans h
theorem KBlk.alloc (h : KBlk k w g t l) (ob : Obj) : KBlk k (w.alloc ob) g t l := (Below.heap_alloc w ob g h.lt).trans h
theorem KBlk.drew (h : KBlk k w g t l) : KBlk k w.drew g t l := h
theorem KBlk.drewN (h : KBlk k w g t l) (m : Nat) : KBlk k (w.drewN m) g t l := h
theorem KBlk.below (h : KBlk k w g t l) (hb : Below B w w') (hg : g < B) : KBlk k w' g t l := (hb.block g hg).trans h
theorem KBlk.same (h : KBlk k w g t l) (hb : Below w.heap.size w w') : KBlk k w' g t l := (hb.block g h.lt).trans h
theorem KBlk.grown {row : Option Nat} (h : KBlk k w g t l) (hb : w.grownBy w' row) (hg : some g ≠ row) : KBlk k w' g t l := (hb.block g h.lt hg).trans h
theorem KBlk.new (w : World) (t : TypeId) (l : List Int) : KBlk k (w.alloc (.cells (l.map (Value.int k)).toArray t)) w.heap.size t l := heap_alloc_new w _
/-- A whole block, read as a slice. -/
theorem KBlk.slr (h : KBlk k w g t l) {n c : Nat} (hn : n ≤ l.length) (hc : n ≤ c) (hm : c ≤ maxLen) : SlR k w (some ⟨g, 0, none⟩) n c (l.take n) := by
  refine ⟨by simp; omega, hc, hm, fun _ => ⟨g, 0, rfl, h.lt, fun i hi => ?_⟩⟩
  rw [Nat.zero_add, h.cell (by omega), List.getElem?_take_of_lt hi]
theorem KBlk.slr_all (h : KBlk k w g t l) {n c : Nat} (hn : l.length = n) (hc : n ≤ c) (hm : c ≤ maxLen) : SlR k w (some ⟨g, 0, none⟩) n c l := by
  have := h.slr (n := n) (by omega) hc hm
  rwa [List.take_of_length_le (by omega)] at this

theorem SlR.below (h : SlR k w A n c l) (hb : Below w.heap.size w w') : SlR k w' A n c l := by
  obtain ⟨h1, h2, h3, h4⟩ := h
  refine ⟨h1, h2, h3, fun hp => ?_⟩
  obtain ⟨b, o, rfl, hlt, hc⟩ := h4 hp
  exact ⟨b, o, rfl, by have := hb.size; omega, fun i hi => (hb.cell (p := ⟨b, o + i, none⟩) hlt).trans (hc i hi)⟩
theorem SlR.pos (h : SlR k w A n c l) {i : Nat} (hi : i < n) : ∃ b o, A = some ⟨b, o, none⟩ ∧ b < w.heap.size ∧ w.cell? ⟨b, o + i, none⟩ = some (.int k (l[i]?.getD 0)) := by
  obtain ⟨_, _, _, h4⟩ := h
  obtain ⟨b, o, rfl, hlt, hc⟩ := h4 (by omega)
  exact ⟨b, o, rfl, hlt, hc i hi⟩
theorem SlR.drewN (h : SlR k w A n c l) (m : Nat) : SlR k (w.drewN m) A n c l := h
theorem SlR.alloc (h : SlR k w A n c l) (ob : Obj) : SlR k (w.alloc ob) A n c l := h.below ((Below.refl _ _).alloc (Nat.le_refl _) ob)
theorem SlR.setCell (h : SlR k w A n c l) {p : Addr} (u : Value) (hp : ∀ a, A = some a → a.block ≠ p.block) : SlR k (w.setCell p u) A n c l := by
  obtain ⟨h1, h2, h3, h4⟩ := h
  refine ⟨h1, h2, h3, fun hq => ?_⟩
  obtain ⟨b, o, rfl, hlt, hc⟩ := h4 hq
  refine ⟨b, o, rfl, by simpa [World.setCell] using hlt, fun i hi => ?_⟩
  rw [World.cell?_setCell_other _ _ _ _ (fun e => hp _ rfl (by rw [e]))]
  exact hc i hi
theorem SlR.nil (w : World) (A : Option Addr) (c : Nat) (hc : c ≤ maxLen) : SlR k w A 0 c [] := ⟨rfl, Nat.zero_le _, hc, fun h => absurd h (by omega)⟩
end

/-- The slice '.slice A n c' is the call's own, from block B on: its elements are the integers l (of kind k, type t); it may be written. -/
def OwnK (k : IntKind) (w : World) (B : Nat) (t : TypeId) (A : Option Addr) (n c : Nat) (l : List Int) : Prop :=
  l.length = n ∧ w.ownsRow B t 1 (.slice A n c) n (l.map (Value.int k))

section
variable {k : IntKind} {w w' : World} {g b o n c B B' : Nat} {t : TypeId} {l : List Int} {A : Option Addr}
theorem OwnK.slr (h : OwnK k w B t A n c l) : SlR k w A n c l := by
  obtain ⟨h1, h2, h3⟩ := h
  rcases h3 with ⟨he, hn⟩ | ⟨g, cap, cur, he, hg, hh, hc, hm, hs, ht⟩
  · injection he with e1 e2 e3
    subst e1 e2 e3
    exact ⟨h1, Nat.le_refl _, Nat.zero_le _, fun h => absurd h (by omega)⟩
  · injection he with e1 e2 e3
    subst e1 e3
    refine ⟨h1, hc, hm, fun hp => ⟨g, 0, rfl, ?_, fun i hi => ?_⟩⟩
    · rcases Nat.lt_or_ge g w.heap.size with hlt | hge
      · exact hlt
      · rw [Array.getElem?_eq_none hge] at hh; cases hh
    · rw [Nat.zero_add, cell_of_row w g i cur t (0, 0) hh]
      have : (cur.toList.take (n * 1))[i]? = some (.int k (l[i]?.getD 0)) := by rw [ht]; simp [show i < l.length by omega]
      rw [List.getElem?_take_of_lt (by omega)] at this
      simpa using this
theorem OwnK.below (h : OwnK k w B t A n c l) (hb : Below w.heap.size w w') : OwnK k w' B t A n c l := by
  obtain ⟨h1, h2, h3⟩ := h
  refine ⟨h1, h2, ?_⟩
  rcases h3 with h3 | ⟨g, cap, cur, he, hg, hh, hr⟩
  · exact .inl h3
  · refine .inr ⟨g, cap, cur, he, hg, ?_, hr⟩
    rw [hb.block g ?_]; exact hh
    rcases Nat.lt_or_ge g w.heap.size with hlt | hge
    · exact hlt
    · rw [Array.getElem?_eq_none hge] at hh; cases hh
theorem OwnK.mono (h : OwnK k w B t A n c l) (hB : B' ≤ B) : OwnK k w B' t A n c l := by
  obtain ⟨h1, h2, h3⟩ := h
  refine ⟨h1, h2, ?_⟩
  rcases h3 with h3 | ⟨g, cap, cur, he, hg, hr⟩
  · exact .inl h3
  · exact .inr ⟨g, cap, cur, he, by omega, hr⟩
theorem OwnK.pos (h : OwnK k w B t A n c l) (hn : 0 < n) : ∃ g, A = some ⟨g, 0, none⟩ ∧ B ≤ g ∧ g < w.heap.size := by
  obtain ⟨g, o, rfl, hlt, _⟩ := h.slr.pos (i := 0) hn
  rcases h.2.2 with ⟨he, _⟩ | ⟨g', cap, cur, he, hg, _⟩
  · injection he with e1; cases e1
  · injection he with e1
    injection e1 with e1
    injection e1 with e1 e2
    subst e1 e2
    exact ⟨g, rfl, hg, hlt⟩
theorem OwnK.cell (h : OwnK k w B t (some ⟨g, 0, none⟩) n c l) {i : Nat} (hi : i < n) : w.cell? ⟨g, i, none⟩ = some (.int k (l[i]?.getD 0)) := by
  rw [h.2.cellAt i (by omega)]
  simp [show i < l.length by have := h.1; omega]
theorem OwnK.frozen (h : OwnK k w B t (some ⟨g, 0, none⟩) n c l) (i : Nat) : w.frozen? ⟨g, i, none⟩ = false := h.2.frozenAt i
theorem OwnK.set (h : OwnK k w B t (some ⟨g, 0, none⟩) n c l) (i : Nat) (x : Int) : OwnK k (w.setCell ⟨g, i, none⟩ (.int k x)) B t (some ⟨g, 0, none⟩) n c (l.set i x) := by
  refine ⟨by simpa using h.1, ?_⟩
  have := (h.2.stored i (.int k x)).1
  rwa [← List.map_set] at this
theorem KBlk.own (h : KBlk k w g t l) (hB : B ≤ g) (hn : l.length = n) (hm : n ≤ maxLen) : OwnK k w B t (some ⟨g, 0, none⟩) n n l :=
  ⟨hn, by simp [hn], .inr ⟨g, n, _, rfl, hB, h, Nat.le_refl _, hm, by simp [hn], by simp; rw [List.take_of_length_le (by simp; omega)]⟩⟩
theorem OwnK.drewN (h : OwnK k w B t A n c l) (m : Nat) : OwnK k (w.drewN m) B t A n c l := h
theorem OwnK.far (h : OwnK k w B t A n c l) {p : Addr} (u : Value) (hp : ∀ a, A = some a → a.block ≠ p.block) : OwnK k (w.setCell p u) B t A n c l := by
  obtain ⟨h1, h2, h3⟩ := h
  refine ⟨h1, h2, ?_⟩
  rcases h3 with h3 | ⟨g, cap, cur, he, hg, hh, hr⟩
  · exact .inl h3
  · refine .inr ⟨g, cap, cur, he, hg, ?_, hr⟩
    injection he with e1
    rw [Below.heap_setCell w p u g (hp _ e1)]; exact hh
end

/-- Block b holds elements of the type t. -/
def TyB (w : World) (b : Nat) (t : TypeId) : Prop := ∃ cs fr, w.heap[b]? = some (.cells cs t fr)
theorem TyB.lt {w : World} {b : Nat} {t : TypeId} (h : TyB w b t) : b < w.heap.size := by
  obtain ⟨cs, fr, h⟩ := h
  rcases Nat.lt_or_ge b w.heap.size with hlt | hge
  · exact hlt
  · rw [Array.getElem?_eq_none hge] at h; cases h
theorem TyB.below {w w' : World} {b : Nat} {t : TypeId} (h : TyB w b t) (hb : Below w.heap.size w w') : TyB w' b t := by
  have hl := h.lt
  obtain ⟨cs, fr, h⟩ := h
  exact ⟨cs, fr, (hb.block b hl).trans h⟩
theorem TyB.setCell {w : World} {b : Nat} {t : TypeId} (h : TyB w b t) (p : Addr) (x : Value) : TyB (w.setCell p x) b t := by
  obtain ⟨cs, fr, h⟩ := h
  by_cases e : b = p.block
  · subst e
    unfold TyB
    simp only [World.setCell, Array.getElem?_modify, h]
    exact ⟨_, _, rfl⟩
  · exact ⟨cs, fr, (Below.heap_setCell w p x b e).trans h⟩
theorem TyB.ne {w : World} {b r : Nat} {t u : TypeId} (h : TyB w b t) (k : TyB w r u) (hn : t ≠ u) : b ≠ r := by
  rintro rfl
  obtain ⟨cs, fr, h⟩ := h
  obtain ⟨cs', fr', k⟩ := k
  rw [h] at k
  injection k with k
  injection k with _ k
  exact hn k
theorem KBlk.ty {k : IntKind} {w : World} {g : Nat} {t : TypeId} {l : List Int} (h : KBlk k w g t l) : TyB w g t := ⟨_, _, h⟩
theorem OwnK.ty {k : IntKind} {w : World} {B : Nat} {t : TypeId} {A : Option Addr} {n c : Nat} {l : List Int} (h : OwnK k w B t A n c l) (hn : 0 < n) : ∃ a, A = some a ∧ B ≤ a.block ∧ TyB w a.block t := by
  rcases h.2.2 with ⟨he, h0⟩ | ⟨g, cap, cur, he, hg, hh, _⟩
  · omega
  · injection he with e1
    exact ⟨_, e1, hg, _, _, hh⟩
section
variable {P : Program} (w : World)
/-- 'make([]T, n)' of integers. -/
theorem wpList_makeK {ops : Array Oper} {rest : List Oper} {o : Oper} {a : Act} {Q : Exit → Act → World → Prop}
    (hg : o.guard = none) (l c : Operand) (t : TypeId) (hop : o.op = Op.makeSlice t l c) (e : TypeId) (k : IntKind) (bytes : Nat) (h1 : P.underlying t = some (.slice e))
    (h2 : (P.info? e).map (fun i => (i.zero, i.size, i.bytes)) = some (some (.int k 0), 1, bytes))
    (kl kc : IntKind) (L C : Int) (n : Nat) (hl : a.eval l = .int kl L) (hc : a.eval c = .int kc C) (hL : L = (n : Int)) (hC : C = (n : Int)) (b2 : bytes * n ≤ 281474976710656) (b3 : n ≤ maxLen)
    (hK : ∀ w', KBlk k w' w.heap.size e (List.replicate n 0) → Below w.heap.size w w' → w'.heap.size = w.heap.size + 1 → wpList P ops Q rest (a.put o.dst (.slice (some ⟨w.heap.size, 0, none⟩) n n)) w') :
    wpList P ops Q (o :: rest) a w := by
  obtain ⟨i, hi, hz, hs, hb⟩ := info_parts h2
  refine wpList_plain hg fun K hK' => ?_
  subst hL hC hb
  have h63 : (n : Int) ≤ 9223372036854775807 := by have := b3; unfold maxLen at this; omega
  have hb' : (i.bytes : Int) * (n : Int) ≤ 281474976710656 := by
    have h : ((i.bytes * n : Nat) : Int) ≤ 281474976710656 := by omega
    rwa [Int.natCast_mul] at h
  have hrun := run_make (P := P) w t e i _ h1 hi hz kl kc n n (by omega) (Int.le_refl _) hb' h63
  unfold Oper.wp
  simp [execOp, hop, hl, hc, hrun, Result.andThen]
  refine hK' _ _ (hK _ ?_ ((Below.refl _ _).alloc (Nat.le_refl _) _) (by simp))
  unfold KBlk
  rw [heap_alloc_new, hs, Nat.mul_one]
  congr 2
  apply Array.ext'
  have h3 := toList_madeCells_one (.int k 0) n
  simp only [Value.cells]
  rw [h3]
  simp

/-- 'append(s, x...)': s is the call's own (or nil), x reads as 'news'. -/
theorem wpList_appendK {ops : Array Oper} {rest : List Oper} {o : Oper} {a : Act} {Q : Exit → Act → World → Prop} (hgd : o.guard = none) (s x : Operand) (t : TypeId)
    (ho : o.op = .call { callee := .builtin .append, args := #[s, x], argTypes := #[t, t] })
    (e : TypeId) (k : IntKind) (bytes : Nat) (h1 : P.underlying t = some (.slice e)) (h2 : (P.info? e).map (fun i => (i.zero, i.size, i.bytes)) = some (some (.int k 0), 1, bytes))
    (base : Nat) (A : Option Addr) (n c : Nat) (l : List Int) (hs : a.eval s = .slice A n c) (hown : OwnK k w base e A n c l)
    (A' : Option Addr) (m c' : Nat) (news : List Int) (hx : a.eval x = .slice A' m c') (hr : SlR k w A' m c' news)
    (h63 : n + m ≤ maxLen) (hbytes : (n + m) * bytes ≤ 140737488355328) (hbase : base ≤ w.heap.size)
    (h : ∀ A₁ c₁ w', OwnK k w' base e A₁ (n + m) c₁ (l ++ news) → Below base w w' → wpList P ops Q rest (a.put o.dst (.slice A₁ (n + m) c₁)) w') : wpList P ops Q (o :: rest) a w := by
  obtain ⟨i, hi, hz, hsz, hb⟩ := info_parts h2
  refine wpList_plain hgd fun K hK => ?_
  have key : ∃ v' w', (Builtin.append_ #[t, t] o.type #[.slice A n c, .slice A' m c']).run P w = .ok v' w' ∧ w'.ownsRow base e 1 v' (n + m) ((l ++ news).map (Value.int k)) ∧ Below base w w' := by
    rcases A' with _ | ad
    · have h0 : m = 0 := by
        rcases Nat.eq_zero_or_pos m with h0 | h0
        · exact h0
        · obtain ⟨b, q, he, _⟩ := hr.2.2.2 h0; cases he
      subst h0
      have hn : news = [] := List.eq_nil_of_length_eq_zero hr.1
      subst hn
      refine ⟨.slice A n c, w, ?_, by simpa using hown.2, Below.refl _ _⟩
      rcases hown.2.2 with ⟨he, hn⟩ | ⟨g, cap, cur, he, _, hh, hnc, _⟩
      · injection he with e1 e2 e3
        subst e1 e2 e3
        simp [Builtin.append_, run_underlying h1, sizeOf, typeInfo, hi, Builtin.lenOf, Builtin.firstCells]
      · injection he with e1 e2 e3
        subst e1 e3
        simp [Builtin.append_, run_underlying h1, sizeOf, typeInfo, hi, Builtin.lenOf, Builtin.firstCells, hnc, storeCells]
    · obtain ⟨v', w', hrun, g1, g2, _, _⟩ := run_append_own_at (P := P) w base t o.type e i _ 1 bytes h1 hi hz hsz hb rfl (by omega) _ n _ hown.2 ad m c' (news.map (Value.int k)) (by simpa using hr.1)
        (by
          intro j u hu
          have hj : j < m := by rw [← hr.1]; rcases Nat.lt_or_ge j news.length with h' | h'; exact h'; simp [List.getElem?_eq_none h'] at hu
          obtain ⟨b, q, he, hlt, hcell⟩ := hr.2.2.2 (by omega)
          injection he with he
          subst he
          rw [show (⟨b, q, none⟩ : Addr).add j = ⟨b, q + j, none⟩ by unfold Addr.add; split <;> simp_all, hcell j hj, ← hu]
          simp [show j < news.length by rw [hr.1]; exact hj])
        (by intro u hu; simp at hu; obtain ⟨z, _, rfl⟩ := hu; rfl) h63 hbytes hbase
      refine ⟨v', w', hrun, by simpa using g1, (Below.refl _ _).grown g2 hbase (fun j hj => (hown.2.lt j hj).1)⟩
  obtain ⟨v', w', hrun, g1, g2⟩ := key
  obtain ⟨A₁, c₁, hv⟩ : ∃ A₁ c₁, v' = .slice A₁ (n + m) c₁ := by
    rcases g1.2 with ⟨he, hn⟩ | ⟨g, cap, cur, he, _⟩
    · exact ⟨none, 0, by rw [he, hn]⟩
    · exact ⟨_, _, he⟩
  subst hv
  have hown' : OwnK k w' base e A₁ (n + m) c₁ (l ++ news) := ⟨by simp [hown.1, hr.1], g1⟩
  unfold Oper.wp execOp
  simp only [ho, resolve, invoke, builtin, Sem.run_bind, Sem.run_pure, Result.andThen_ok, List.map_toArray, List.map_cons, List.map_nil, hs, hx, hrun]
  exact hK _ _ (h A₁ c₁ w' hown' g2)
end
end Go.Proofs.YtnedhbidmfoegaaGreat

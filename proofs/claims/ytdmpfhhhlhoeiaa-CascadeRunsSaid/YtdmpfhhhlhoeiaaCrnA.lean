/- Parts of the proof: contracts of functions, each walked once, and plain laws. -/
import Derived.WalkKit
import Derived.Lib.Hide
import Derived.Deep.Draws
import Derived.Deep.AppendLies
import Derived.Maps.AppendAt
import Derived.Orders
import Derived.KernelRfl
import Derived.LoopN
import Derived.Test.YtdmpfhhhlhoeiaaProg
import Derived.LoopTactic
import Derived.Outline
import Derived.Deep.QuietTactic
import Derived.BigQuiet
import Derived.BigRegion
import Derived.WalkSpells
import Derived.Lib.SliceRun
import Derived.Shelf.Small.Bits
import Derived.Ground.Names2Prog
import Derived.Lib.ItoaNum
import Derived.Laws.BitsLemmas
import Derived.Deep.DeepCutAuto
import Derived.Deep.CutBlock
import Derived.Deep.RegionWith
import Derived.WalkLawsBesides
import Derived.IntWalk
import Derived.OpenShut
import Derived.ChangeSlices
import Derived.Deep.Slices
import Derived.Laws.MakeOwn
namespace Go.Proofs.Ytdmpfhhhlhoeiaa
set_option linter.unusedVariables false
theorem xq {p : Prop} (h : p := by omega) : p := h
theorem xv {p : Prop} (h : p := by kernel_rfl) : p := h
theorem xj {p : Prop} (h : p := by repeat first | exact noAt_of | exact zwf | refine zyd ?_ | refine zyf ?_ | refine zye ?_ | refine zzy ?_ | refine zyb ?_) : p := h
theorem xk {p : Prop} (h : p := by rw [IntWalk.i64_in _ (by omega)]; omega) : p := h
theorem xz {p : Prop} (h : p := by rw [IntWalk.i64_in _ (by omega)]) : p := h
theorem xw {p : Prop} (h : p := by decide) : p := h
theorem yq {p : Prop} (h : p := by unfold maxLen; omega) : p := h
theorem yv {p : Prop} (h : p := by show _ ≤ (64 : Int); omega) : p := h
theorem yj {p : Prop} (h : p := by exact zzv _ _ _) : p := h
theorem yz {p : Prop} (h : p := by simp; omega) : p := h
open Go.RowKit

def SlR (k : IntKind) (w : World) (A : Option Addr) (n c : Nat) (l : List Int) : Prop :=
 l.length = n ∧ n ≤ c ∧ c ≤ maxLen ∧ (0 < n → ∃ b o, A = some ⟨b, o, none⟩ ∧ b < w.heap.size ∧ ∀ i, i < n → w.cell? ⟨b, o + i, none⟩ = some (.int k (l[i]?.getD 0)))

def KBlk (k : IntKind) (w : World) (g : Nat) (t : TypeId) (l : List Int) : Prop := w.heap[g]? = some (.cells (l.map (Value.int k)).toArray t (0, 0))

section
variable {k : IntKind} {w w' : World} {g b o n c B : Nat} {t : TypeId} {l : List Int} {A : Option Addr}

theorem KBlk.lt (h : KBlk k w g t l) : g < w.heap.size := by
 rcases Nat.lt_or_ge g w.heap.size with hlt | hge
 ·exact hlt
 ·unfold KBlk at h; rw [Array.getElem?_eq_none hge] at h; cases h
theorem KBlk.cell (h : KBlk k w g t l) {i : Nat} (hi : i < l.length) : w.cell? ⟨g, i, none⟩ = some (.int k (l[i]?.getD 0)) := by
 rw [cell_of_row w g i _ t (0, 0) h]
 simp [hi]
theorem KBlk.frozen (h : KBlk k w g t l) (i : Nat) : w.frozen? ⟨g, i, none⟩ = false := by
 unfold KBlk at h
 simp [World.frozen?, h]
theorem KBlk.set (h : KBlk k w g t l) (i : Nat) (x : Int) : KBlk k (w.setCell ⟨g, i, none⟩ (.int k x)) g t (l.set i x) := by
 unfold KBlk at h ⊢
 simp [World.setCell, Array.getElem?_modify, h, List.map_set]
theorem KBlk.far (h : KBlk k w g t l) {p : Addr} (hp : g ≠ p.block) (u : Value) : KBlk k (w.setCell p u) g t l := (Below.heap_setCell w p u g hp).trans h
theorem KBlk.alloc (h : KBlk k w g t l) (ob : Obj) : KBlk k (w.alloc ob) g t l := (Below.heap_alloc w ob g h.lt).trans h
theorem KBlk.drew (h : KBlk k w g t l) : KBlk k w.drew g t l := h
theorem KBlk.drewN (h : KBlk k w g t l) (m : Nat) : KBlk k (w.drewN m) g t l := h
theorem KBlk.below (h : KBlk k w g t l) (hb : Below B w w') (hg : g < B) : KBlk k w' g t l := (hb.block g hg).trans h
theorem KBlk.same (h : KBlk k w g t l) (hb : Below w.heap.size w w') : KBlk k w' g t l := (hb.block g h.lt).trans h
theorem KBlk.grown {row : Option Nat} (h : KBlk k w g t l) (hb : w.grownBy w' row) (hg : some g ≠ row) : KBlk k w' g t l := (hb.block g h.lt hg).trans h
theorem KBlk.new (w : World) (t : TypeId) (l : List Int) : KBlk k (w.alloc (.cells (l.map (Value.int k)).toArray t)) w.heap.size t l := heap_alloc_new w _
theorem KBlk.slr (h : KBlk k w g t l) {n c : Nat} (hn : n ≤ l.length) (hc : n ≤ c) (hm : c ≤ maxLen) : SlR k w (some ⟨g, 0, none⟩) n c (l.take n) := by
 refine ⟨by simp; omega, hc, hm, fun _ => ⟨g, 0, rfl, h.lt, fun i hi => ?_⟩⟩
 rw [Nat.zero_add, h.cell xq, List.getElem?_take_of_lt hi]
theorem SlR.below (h : SlR k w A n c l) (hb : Below w.heap.size w w') : SlR k w' A n c l := by
 obtain ⟨h1, h2, h3, h4⟩ := h
 refine ⟨h1, h2, h3, fun hp => ?_⟩
 obtain ⟨b, o, rfl, hlt, hc⟩ := h4 hp
 exact ⟨b, o, rfl, by have := hb.size; omega, fun i hi => (hb.cell (p := ⟨b, o + i, none⟩) hlt).trans (hc i hi)⟩
theorem SlR.pos (h : SlR k w A n c l) {i : Nat} (hi : i < n) : ∃ b o, A = some ⟨b, o, none⟩ ∧ b < w.heap.size ∧ w.cell? ⟨b, o + i, none⟩ = some (.int k (l[i]?.getD 0)) := by
 obtain ⟨_, _, _, h4⟩ := h
 obtain ⟨b, o, rfl, hlt, hc⟩ := h4 xq
 exact ⟨b, o, rfl, hlt, hc i hi⟩
theorem SlR.drewN (h : SlR k w A n c l) (m : Nat) : SlR k (w.drewN m) A n c l := h
theorem SlR.alloc (h : SlR k w A n c l) (ob : Obj) : SlR k (w.alloc ob) A n c l := h.below ((Below.refl _ _).alloc (Nat.le_refl _) ob)
theorem SlR.setCell (h : SlR k w A n c l) {p : Addr} (u : Value) (hp : ∀ a, A = some a → a.block ≠ p.block) : SlR k (w.setCell p u) A n c l := by
 obtain ⟨h1, h2, h3, h4⟩ := h
 refine ⟨h1, h2, h3, fun hq => ?_⟩
 obtain ⟨b, o, rfl, hlt, hc⟩ := h4 hq
 refine ⟨b, o, rfl, by simpa [World.setCell] using hlt, fun i hi => ?_⟩
 rw [World.cell?_setCell_other _ _ _ _ (fun e => hp _ rfl (by rw [e]))]
 exact hc i hi
theorem SlR.nil (w : World) (A : Option Addr) (c : Nat) (hc : c ≤ maxLen) : SlR k w A 0 c [] := ⟨rfl, Nat.zero_le _, hc, fun h => absurd h xq⟩
end

def OwnK (k : IntKind) (w : World) (B : Nat) (t : TypeId) (A : Option Addr) (n c : Nat) (l : List Int) : Prop :=
 l.length = n ∧ w.ownsRow B t 1 (.slice A n c) n (l.map (Value.int k))

section
variable {k : IntKind} {w w' : World} {g b o n c B B' : Nat} {t : TypeId} {l : List Int} {A : Option Addr}
theorem OwnK.slr (h : OwnK k w B t A n c l) : SlR k w A n c l := by
 obtain ⟨h1, h2, h3⟩ := h
 rcases h3 with ⟨he, hn⟩ | ⟨g, cap, cur, he, hg, hh, hc, hm, hs, ht⟩
 ·injection he with e1 e2 e3
  subst e1 e2 e3
  exact ⟨h1, Nat.le_refl _, Nat.zero_le _, fun h => absurd h xq⟩
 ·injection he with e1 e2 e3
  subst e1 e3
  refine ⟨h1, hc, hm, fun hp => ⟨g, 0, rfl, ?_, fun i hi => ?_⟩⟩
  ·rcases Nat.lt_or_ge g w.heap.size with hlt | hge
   ·exact hlt
   ·rw [Array.getElem?_eq_none hge] at hh; cases hh
  ·rw [Nat.zero_add, cell_of_row w g i cur t (0, 0) hh]
   have : (cur.toList.take (n * 1))[i]? = some (.int k (l[i]?.getD 0)) := by rw [ht]; simp [show i < l.length by omega]
   rw [List.getElem?_take_of_lt xq] at this
   simpa using this
theorem OwnK.below (h : OwnK k w B t A n c l) (hb : Below w.heap.size w w') : OwnK k w' B t A n c l := by
 obtain ⟨h1, h2, h3⟩ := h
 refine ⟨h1, h2, ?_⟩
 rcases h3 with h3 | ⟨g, cap, cur, he, hg, hh, hr⟩
 ·exact .inl h3
 ·refine .inr ⟨g, cap, cur, he, hg, ?_, hr⟩
  rw [hb.block g ?_]; exact hh
  rcases Nat.lt_or_ge g w.heap.size with hlt | hge
  ·exact hlt
  ·rw [Array.getElem?_eq_none hge] at hh; cases hh
theorem OwnK.mono (h : OwnK k w B t A n c l) (hB : B' ≤ B) : OwnK k w B' t A n c l := by
 obtain ⟨h1, h2, h3⟩ := h
 refine ⟨h1, h2, ?_⟩
 rcases h3 with h3 | ⟨g, cap, cur, he, hg, hr⟩
 ·exact .inl h3
 ·exact .inr ⟨g, cap, cur, he, by omega, hr⟩
theorem OwnK.pos (h : OwnK k w B t A n c l) (hn : 0 < n) : ∃ g, A = some ⟨g, 0, none⟩ ∧ B ≤ g ∧ g < w.heap.size := by
 obtain ⟨g, o, rfl, hlt, _⟩ := h.slr.pos (i := 0) hn
 rcases h.2.2 with ⟨he, _⟩ | ⟨g', cap, cur, he, hg, _⟩
 ·injection he with e1; cases e1
 ·injection he with e1
  injection e1 with e1
  injection e1 with e1 e2
  subst e1 e2
  exact ⟨g, rfl, hg, hlt⟩
theorem OwnK.cell (h : OwnK k w B t (some ⟨g, 0, none⟩) n c l) {i : Nat} (hi : i < n) : w.cell? ⟨g, i, none⟩ = some (.int k (l[i]?.getD 0)) := by
 rw [h.2.cellAt i xq]
 simp [show i < l.length by have := h.1; omega]
theorem OwnK.frozen (h : OwnK k w B t (some ⟨g, 0, none⟩) n c l) (i : Nat) : w.frozen? ⟨g, i, none⟩ = false := h.2.frozenAt i
theorem OwnK.set (h : OwnK k w B t (some ⟨g, 0, none⟩) n c l) (i : Nat) (x : Int) : OwnK k (w.setCell ⟨g, i, none⟩ (.int k x)) B t (some ⟨g, 0, none⟩) n c (l.set i x) := by
 refine ⟨by simpa using h.1, ?_⟩
 have := (h.2.stored i (.int k x)).1
 rwa [← List.map_set] at this
theorem KBlk.own (h : KBlk k w g t l) (hB : B ≤ g) (hn : l.length = n) (hm : n ≤ maxLen) : OwnK k w B t (some ⟨g, 0, none⟩) n n l :=
 ⟨hn, by simp [hn], .inr ⟨g, n, _, rfl, hB, h, Nat.le_refl _, hm, by simp [hn], by simp; rw [List.take_of_length_le yz]⟩⟩
theorem OwnK.drewN (h : OwnK k w B t A n c l) (m : Nat) : OwnK k (w.drewN m) B t A n c l := h
theorem OwnK.far (h : OwnK k w B t A n c l) {p : Addr} (u : Value) (hp : ∀ a, A = some a → a.block ≠ p.block) : OwnK k (w.setCell p u) B t A n c l := by
 obtain ⟨h1, h2, h3⟩ := h
 refine ⟨h1, h2, ?_⟩
 rcases h3 with h3 | ⟨g, cap, cur, he, hg, hh, hr⟩
 ·exact .inl h3
 ·refine .inr ⟨g, cap, cur, he, hg, ?_, hr⟩
  injection he with e1
  rw [Below.heap_setCell w p u g (hp _ e1)]; exact hh
end

def TyB (w : World) (b : Nat) (t : TypeId) : Prop := ∃ cs fr, w.heap[b]? = some (.cells cs t fr)
theorem TyB.lt {w : World} {b : Nat} {t : TypeId} (h : TyB w b t) : b < w.heap.size := by
 obtain ⟨cs, fr, h⟩ := h
 rcases Nat.lt_or_ge b w.heap.size with hlt | hge
 ·exact hlt
 ·rw [Array.getElem?_eq_none hge] at h; cases h
theorem TyB.below {w w' : World} {b : Nat} {t : TypeId} (h : TyB w b t) (hb : Below w.heap.size w w') : TyB w' b t := by
 have hl := h.lt
 obtain ⟨cs, fr, h⟩ := h
 exact ⟨cs, fr, (hb.block b hl).trans h⟩
theorem TyB.setCell {w : World} {b : Nat} {t : TypeId} (h : TyB w b t) (p : Addr) (x : Value) : TyB (w.setCell p x) b t := by
 obtain ⟨cs, fr, h⟩ := h
 by_cases e : b = p.block
 ·subst e
  unfold TyB
  simp only [World.setCell, Array.getElem?_modify, h]
  exact ⟨_, _, rfl⟩
 ·exact ⟨cs, fr, (Below.heap_setCell w p x b e).trans h⟩
theorem TyB.ne {w : World} {b r : Nat} {t u : TypeId} (h : TyB w b t) (k : TyB w r u) (hn : t ≠ u) : b ≠ r := by
 rintro rfl
 obtain ⟨cs, fr, h⟩ := h
 obtain ⟨cs', fr', k⟩ := k
 rw [h] at k
 injection k with k
 injection k with _ k
 exact hn k
theorem KBlk.ty {k : IntKind} {w : World} {g : Nat} {t : TypeId} {l : List Int} (h : KBlk k w g t l) : TyB w g t := ⟨_, _, h⟩
theorem OwnK.ty {k : IntKind} {w : World} {B : Nat} {t : TypeId} {A : Option Addr} {n c : Nat} {l : List Int} (h : OwnK k w B t A n c l) (hn : 0 < n) : ∃ a, A = some a ∧ B ≤ a.block ∧ TyB w a.block t := by
 rcases h.2.2 with ⟨he, h0⟩ | ⟨g, cap, cur, he, hg, hh, _⟩
 ·omega
 ·injection he with e1
  exact ⟨_, e1, hg, _, _, hh⟩
section
variable {P : Program} (w : World)
end
end Go.Proofs.Ytdmpfhhhlhoeiaa
namespace Go.Proofs.Ytdmpfhhhlhoeiaa
open Go.RowKit
set_option linter.unusedVariables false

def hidO : Obj := .pending #[] 0
structure Ext (u u' : World) : Prop where
 size : u.heap.size ≤ u'.heap.size
 vis : ∀ (b : Nat) (o : Obj), u.heap[b]? = some o → o ≠ hidO → u'.heap[b]? = some o
structure Dat (u w : World) : Prop where
 size : u.heap.size = w.heap.size
 vis : ∀ (b : Nat) (o : Obj), u.heap[b]? = some o → o ≠ hidO → w.heap[b]? = some o
structure Grow (u u' : World) : Prop where
 size : u.heap.size ≤ u'.heap.size
 old : ∀ (b : Nat), b < u.heap.size → u'.heap[b]? = u.heap[b]?
section
variable {u u' u'' w w' : World}
theorem zyz {b : Nat} {o : Obj} (h : u.heap[b]? = some o) : b < u.heap.size := by
 rcases Nat.lt_or_ge b u.heap.size with hlt | hge
 ·exact hlt
 ·rw [Array.getElem?_eq_none hge] at h; cases h
theorem Ext.refl (u : World) : Ext u u := ⟨Nat.le_refl _, fun _ _ h _ => h⟩
theorem Ext.trans (h : Ext u u') (k : Ext u' u'') : Ext u u'' := ⟨Nat.le_trans h.size k.size, fun b o a c => k.vis b o (h.vis b o a c) c⟩
theorem Grow.refl (u : World) : Grow u u := ⟨Nat.le_refl _, fun _ _ => rfl⟩
theorem Grow.trans (h : Grow u u') (k : Grow u' u'') : Grow u u'' := ⟨Nat.le_trans h.size k.size, fun b hb => (k.old b (Nat.lt_of_lt_of_le hb h.size)).trans (h.old b hb)⟩
structure GrowF (F : List Nat) (u u' : World) : Prop where
 size : u.heap.size ≤ u'.heap.size
 old : ∀ b, b < u.heap.size → b ∉ F → u'.heap[b]? = u.heap[b]?
theorem GrowF.refl (F : List Nat) (u : World) : GrowF F u u := ⟨Nat.le_refl _, fun _ _ _ => rfl⟩
theorem GrowF.trans {F : List Nat} (h : GrowF F u u') (k : Grow u' u'') : GrowF F u u'' := ⟨Nat.le_trans h.size k.size, fun b hb hf => (k.old b (Nat.lt_of_lt_of_le hb h.size)).trans (h.old b hb hf)⟩
theorem GrowF.nil (h : GrowF [] u u') : Grow u u' := ⟨h.size, fun b hb => h.old b hb (by simp)⟩
theorem Grow.ext (h : Grow u u') : Ext u u' := ⟨h.size, fun b o a _ => (h.old b (zyz a)).trans a⟩
theorem Dat.ext (h : Dat u w) : Ext u w := ⟨Nat.le_of_eq h.size, h.vis⟩
theorem Dat.refl (w : World) : Dat w w := ⟨rfl, fun _ _ h _ => h⟩
theorem Ext.cell (h : Ext u u') {p : Addr} {v : Value} (hc : u.cell? p = some v) : u'.cell? p = some v := by
 unfold World.cell? at hc ⊢
 cases hb : u.heap[p.block]? with
 | none => rw [hb] at hc; cases hc
 | some o =>
  rw [hb] at hc
  cases o with
  | cells c t fr => rw [h.vis _ _ hb (by unfold hidO; exact fun e => by cases e)]; exact hc
  | _ => cases hc
theorem Ext.ty (h : Ext u u') {b : Nat} {t : TypeId} (hb : TyB u b t) : TyB u' b t := by
 obtain ⟨cs, fr, e⟩ := hb
 exact ⟨cs, fr, h.vis _ _ e (by unfold hidO; exact fun e => by cases e)⟩
theorem Ext.cells (h : Ext u u') {b : Nat} {t : TypeId} {cs : Array Value} {fr : Nat × Nat} (hb : u.heap[b]? = some (.cells cs t fr)) : u'.heap[b]? = some (.cells cs t fr) :=
 h.vis _ _ hb (by unfold hidO; exact fun e => by cases e)
theorem SlR.ext {k : IntKind} {A : Option Addr} {n c : Nat} {l : List Int} (h : SlR k u A n c l) (e : Ext u u') : SlR k u' A n c l := by
 obtain ⟨h1, h2, h3, h4⟩ := h
 refine ⟨h1, h2, h3, fun hp => ?_⟩
 obtain ⟨b, o, rfl, hlt, hc⟩ := h4 hp
 exact ⟨b, o, rfl, Nat.lt_of_lt_of_le hlt e.size, fun i hi => e.cell (hc i hi)⟩
def over (u w' : World) : World := { w' with heap := u.heap ++ w'.heap.extract u.heap.size w'.heap.size }
theorem over_size (h : u.heap.size ≤ w'.heap.size) : (over u w').heap.size = w'.heap.size := by
 simp [over]; omega
theorem over_new {b : Nat} (h : u.heap.size ≤ b) : (over u w').heap[b]? = w'.heap[b]? := by
 simp only [over]; rw [Array.getElem?_append_right h, Array.getElem?_extract]
 by_cases hb : b < w'.heap.size
 ·rw [if_pos xq]; congr 1; omega
 ·rw [if_neg xq, Array.getElem?_eq_none xq]
theorem over_cell {b o : Nat} (h : u.heap.size ≤ b) : (over u w').cell? ⟨b, o, none⟩ = w'.cell? ⟨b, o, none⟩ := by
 simp only [World.cell?]; rw [over_new h]
theorem SlR.over {k : IntKind} {A : Option Addr} {n c : Nat} {l : List Int} (h : SlR k w' A n c l) (hA : 0 < n → ∃ a, A = some a ∧ u.heap.size ≤ a.block) (hs : u.heap.size ≤ w'.heap.size) : SlR k (over u w') A n c l := by
 obtain ⟨h1, h2, h3, h4⟩ := h
 refine ⟨h1, h2, h3, fun hp => ?_⟩
 obtain ⟨b, o, rfl, hlt, hc⟩ := h4 hp
 obtain ⟨a, e, ha⟩ := hA hp
 cases e
 exact ⟨b, o, rfl, by rw [over_size hs]; exact hlt, fun i hi => by rw [over_cell ha]; exact hc i hi⟩
end

def Post (u w : World) (Φ : Value → World → Prop) (e : Ending) (w' : World) : Prop :=
 ∃ v u', e = .returned v ∧ Dat u' w' ∧ Below w.heap.size w w' ∧ Grow u u' ∧ Φ v u'
theorem Post.mono {P : Program} {f : FuncId} {args : Array Value} {u w : World} {Φ Ψ : Value → World → Prop} (h : Calls P f args w (Post u w Φ)) (k : ∀ v u', Grow u u' → Φ v u' → Ψ v u') : Calls P f args w (Post u w Ψ) :=
 h.mono fun e w' ⟨v, u', h1, h2, h3, h4, h5⟩ => ⟨v, u', h1, h2, h3, h4, k v u' h4 h5⟩

inductive SV where
 | v (x : Value)
 | adr (t : Tmp) (off : Nat)
 | slc (t : Tmp) (off n c : Nat)
 | ags (cs : List Value) (t : Tmp) (off n c : Nat)
@[reducible] def zI (z : Int) : SV := .v (.int .i64 z)
@[reducible] def zB (b : Bool) : SV := .v (.bool b)
theorem zPm {P : Program} {f : FuncId} {args : Array Value} {u w : World} {Φ Ψ : Value → World → Prop} (h : Calls P f args w (Post u w Φ)) (k : ∀ v u', Grow u u' → Φ v u' → Ψ v u') : Calls P f args w (Post u w Ψ) := Post.mono h k
def SV.conc (B : Tmp → Nat) : SV → Value
 | .v x => x
 | .adr t off => .pointer (some ⟨B t, off, none⟩)
 | .slc t off n c => .slice (some ⟨B t, off, none⟩) n c
 | .ags cs t off n c => .agg (cs ++ [Value.slice (some ⟨B t, off, none⟩) n c]).toArray
def SV.at? : SV → Option Tmp
 | .v _ => none
 | .adr t _ => some t
 | .slc t _ _ _ => some t
 | .ags _ t _ _ _ => some t
theorem SV.conc_congr {B B' : Tmp → Nat} {x : SV} (h : ∀ t, x.at? = some t → B t = B' t) : x.conc B = x.conc B' := by
 cases x <;> simp [SV.conc, SV.at?] at * <;> rw [h]
structure Vr where
 ty : TypeId
 cs : List Value
structure St where
 n : Nat
 reg : Tmp → Option SV
 var : Tmp → Option Vr
def upd {α : Type} (f : Tmp → Option α) (t : Tmp) (x : Option α) : Tmp → Option α := fun s => bif Nat.beq s t then x else f s
theorem zxb {α : Type} (f : Tmp → Option α) (t : Tmp) (x : Option α) : upd f t x t = x := by simp [upd]
theorem upd_ne {α : Type} (f : Tmp → Option α) {t s : Tmp} (x : Option α) (h : s ≠ t) : upd f t x s = f s := by
 have : Nat.beq s t = false := by
  cases e : Nat.beq s t with
  | true => exact absurd (Nat.eq_of_beq_eq_true e) h
  | false => rfl
 simp [upd, this]
theorem upd_comm {α : Type} (f : Tmp → Option α) {t s : Tmp} (x y : Option α) (h : s ≠ t) : upd (upd f t x) s y = upd (upd f s y) t x := by
 funext r
 by_cases h1 : r = s
 ·subst h1; rw [zxb, upd_ne _ _ h, zxb]
 ·by_cases h2 : r = t
  ·subst h2; rw [upd_ne _ _ h1, zxb, zxb]
  ·rw [upd_ne _ _ h1, upd_ne _ _ h2, upd_ne _ _ h2, upd_ne _ _ h1]
inductive Up where
 | set (x : SV)
 | drop
 | new (V : Vr)
 | lit (V : Vr) (n : Nat)
def St.put (S : St) (d : Option Tmp) (x : Option SV) : St := match d with | some t => { S with reg := upd S.reg t x } | none => S
def St.app (S : St) (d : Option Tmp) : Up → St
 | .set x => S.put d (some x)
 | .drop => S.put d (some (.v undef))
 | .new V => match d with | some t => { S with reg := upd S.reg t (some (.adr t 0)), var := upd S.var t (some V) } | none => S
 | .lit V n => match d with | some t => { S with reg := upd S.reg t (some (.slc t 0 n n)), var := upd S.var t (some V) } | none => S
structure St.Wf (S : St) : Prop where
 reg : ∀ r x t, S.reg r = some x → x.at? = some t → ∃ V, S.var t = some V
structure RegOK (S : St) (B : Tmp → Nat) (a : Act) : Prop where
 reg : ∀ t x, S.reg t = some x → a.tmps[t]? = some (x.conc B)
 size : a.tmps.size = S.n
structure Base where
 w : World
 lent : Option (Tmp × Nat)
 free : List Nat
structure Bel (w0 : Base) (w : World) : Prop where
 os : w.os = w0.w.os
 tape : w.tape = w0.w.tape
 output : w.output = w0.w.output
 size : w0.w.heap.size ≤ w.heap.size
 block : ∀ k, k < w0.w.heap.size → (∀ t, w0.lent ≠ some (t, k)) → k ∉ w0.free → w.heap[k]? = w0.w.heap[k]?
theorem Bel.trans {w0 : Base} {w w' : World} (h : Bel w0 w) (k : Below w0.w.heap.size w w') : Bel w0 w' :=
 ⟨k.os.trans h.os, k.tape.trans h.tape, k.output.trans h.output, Nat.le_trans h.size k.size, fun i hi hl hf => (k.block i hi).trans (h.block i hi hl hf)⟩
theorem Bel.alloc {w0 : Base} {w : World} (h : Bel w0 w) (ob : Obj) : Bel w0 (w.alloc ob) := h.trans ((Below.refl _ w).alloc h.size ob)
def Own (w0 : Base) (u0 : World) (n t b : Nat) : Prop := (t < n → u0.heap.size ≤ b) ∧ (n ≤ t → w0.lent = some (t, b))
theorem Own.mk0 {w0 : Base} {u0 : World} {n t b : Nat} (h : t < n) (k : u0.heap.size ≤ b) : Own w0 u0 n t b := ⟨fun _ => k, fun e => absurd h xq⟩
structure Rep (w0 : Base) (u0 : World) (S : St) (B : Tmp → Nat) (a : Act) (w u : World) : Prop where
 regs : RegOK S B a
 wf : S.Wf
 defers : a.defers = []
 var : ∀ t V, S.var t = some V → w.heap[B t]? = some (.cells V.cs.toArray V.ty (0, 0)) ∧ u.heap[B t]? = some hidO ∧ Own w0 u0 S.n t (B t)
 inj : ∀ t t' V V', S.var t = some V → S.var t' = some V' → B t = B t' → t = t'
 dat : Dat u w
 base : u0.heap.size = w0.w.heap.size
 grow : GrowF w0.free u0 u
 bel : Bel w0 w
theorem RegOK.eval {S : St} {B : Tmp → Nat} {a : Act} (h : RegOK S B a) {t : Tmp} {x : SV} (ht : S.reg t = some x) : a.eval (.tmp t) = x.conc B := by
 simp [Act.eval, h.reg t x ht]
theorem Act.put_size (a : Act) (d : Option Tmp) (v : Value) : (a.put d v).tmps.size = a.tmps.size := by cases d <;> simp [Act.put]
theorem Act.put_get_ne (a : Act) {d : Option Tmp} {t : Tmp} (v : Value) (h : d ≠ some t) : (a.put d v).tmps[t]? = a.tmps[t]? := by
 cases d with
 | none => rfl
 | some s => simp [Act.put]; rw [Array.getElem?_setIfInBounds_ne (fun e => h (by rw [e]))]
theorem Act.put_get_same (a : Act) {t : Tmp} (v : Value) (h : t < a.tmps.size) : (a.put (some t) v).tmps[t]? = some v := by
 simp [Act.put, h]
section
variable (P : Program) (ops : Array Oper) (w0 : Base) (u0 : World)
def Want (o : Oper) (a : Act) (b : Bool) : Prop := Region.wanted o (yielded ops a.tmps) = b
def From (o : Oper) (S : St) (x : SV) : Prop := ∀ t, x.at? = some t → ∃ r ∈ o.looksAt ops, ∃ z, S.reg r = some z ∧ z.at? = some t
def TyIs (T : TypeId) (agg : Bool) (n : Nat) : Prop := ∀ w, (isAgg T).run P w = .ok agg w ∧ (sizeOf T).run P w = .ok n w
def PartIs (cs : List Value) (off : Nat) (agg : Bool) (n : Nat) (x : SV) : Prop :=
 match agg with
 | true => off + n ≤ cs.length ∧ x = .v (.agg ((cs.drop off).take n).toArray)
 | false => ∃ v, cs[off]? = some v ∧ x = .v v
def Free (o : Oper) (S : St) : Prop := ∀ d, o.dst = some d → d < S.n ∧ (S.reg d).bind SV.at? = none
def DoesUp (o : Oper) (S : St) (u : World) : Up → Prop
 | .drop => Free o S ∧ ∀ B a, RegOK S B a → Want ops o a false
 | .set x => Free o S ∧
   ((From ops o S x ∧ ∀ B a w u', RegOK S B a → Ext u u' → Dat u' w → Want ops o a true ∧ (execOp a.eval o).run P w = .ok (.value (x.conc B)) w) ∨
    (∃ T r s off V agg n, o.op = .load T (.tmp r) ∧ S.reg r = some (.adr s off) ∧ S.var s = some V ∧ TyIs P T agg n ∧ PartIs V.cs off agg n x ∧ ∀ B a, RegOK S B a → Want ops o a true))
 | .new V => Free o S ∧ ∃ t, o.dst = some t ∧ S.var t = none ∧
   ∀ B a w, RegOK S B a → Want ops o a true ∧ (execOp a.eval o).run P w = .ok (.value (.pointer (some ⟨w.heap.size, 0, none⟩))) (w.alloc (.cells V.cs.toArray V.ty))
 | .lit V n => Free o S ∧ ∃ t, o.dst = some t ∧ S.var t = none ∧
   ∀ B a w, RegOK S B a → Want ops o a true ∧ (execOp a.eval o).run P w = .ok (.value (.slice (some ⟨w.heap.size, 0, none⟩) n n)) (w.alloc (.cells V.cs.toArray V.ty))
def DoesCall (o : Oper) (S : St) (f : FuncId) (args : List SV) : Prop :=
 Free o S ∧ (∀ z ∈ args, From ops o S z) ∧ ∀ B a w, RegOK S B a → Want ops o a true ∧ (execOp a.eval o).run P w = .ok (.enter f (args.map (SV.conc B)).toArray) w
def St.unpub (S : St) (pubs : List Tmp) : St := { S with reg := fun r => bif pubs.contains r then none else S.reg r, var := fun t => bif pubs.contains t then none else S.var t }
def St.pv (S : St) (pubs : List Tmp) : List Tmp := pubs.filter fun t => (S.var t).isSome
structure PubOK (S : St) (pubs : List Tmp) : Prop where
 lt : ∀ t ∈ pubs, t < S.n
 reg : ∀ r x t, S.reg r = some x → x.at? = some t → t ∈ pubs → r ∈ pubs
def opK : Op → Nat
 | .call { callee := .builtin .len, .. } | .call { callee := .builtin .cap, .. } | .call { callee := .builtin .max, .. } => 0
 | .call { callee := .value _, .. } => 1
 | .move _ | .assign _ | .pick .. | .alloc _ | .box .. | .build .. | .buildSlice .. | .load .. | .nilCheck _ | .binOp .. | .unOp .. | .convert .. | .makeSlice .. | .slice .. | .fieldAddr .. | .field ..
 | .indexAddr .. | .index .. | .extract .. => 0
 | _ => 2
def setL (cs : List Value) (off : Nat) (vs : List Value) : List Value := cs.take off ++ vs ++ cs.drop (off + vs.length)
def St.setVar (S : St) (s : Tmp) (V : Vr) : St := ⟨S.n, S.reg, upd S.var s (some V)⟩
def isStore : Op → Bool
 | .store .. => true
 | _ => false
def DoesStore (o : Oper) (S : St) (nl : List Tmp) (s : Tmp) (V' : Vr) : Prop :=
 ∃ T r z off V v agg n, o.op = .store T (.tmp r) z ∧ o.dst = none ∧ S.reg r = some (.adr s off) ∧ S.var s = some V ∧ (∀ B a, RegOK S B a → a.eval z = v) ∧ TyIs P T agg n ∧ v.cells.size = n ∧ v.cells.toList.all Value.oneCell' = true ∧ off + n ≤ V.cs.length ∧
  V' = ⟨V.ty, setL V.cs off v.cells.toList⟩ ∧ (∀ B a, RegOK S B a → Want ops o a true) ∧ ∀ r' ∈ nl, ∀ t off', S.reg r' = some (.adr t off') → t ≠ s
def Visible (S : St) (B : Tmp → Nat) (u : World) (pubs : List Tmp) : Prop := ∀ t ∈ pubs, ∀ V, S.var t = some V → u.heap[B t]? = some (.cells V.cs.toArray V.ty (0, 0))
def one (seq : Bool) (e : Oper × List Tmp) (S : St) (u : World) (k : St → World → Prop) : Prop :=
 (opK e.1.op ≠ 2 ∧ ∃ up, DoesUp P ops e.1 S u up ∧ k (S.app e.1.dst up) u) ∨
 (opK e.1.op = 1 ∧ ∃ f args pubs, (seq = false → pubs = e.2) ∧ DoesCall P ops e.1 S f args ∧ PubOK S pubs ∧ ∀ B w u1, Ext u u1 → Dat u1 w → Visible S B u1 pubs →
  Calls P f (args.map (SV.conc B)).toArray w (Post u1 w fun v u2 => k ((S.unpub pubs).put e.1.dst (some (.v v))) u2)) ∨
 ((seq = true ∨ (opK e.1.op = 2 ∧ isStore e.1.op = false)) ∧ ∀ B a w u', Ext u u' → Rep w0 u0 S B a w u' → Want ops e.1 a true ∧
  e.1.wp P a w (fun a' w' => ∃ S' B' u'' u2, Rep w0 u0 S' B' a' w' u'' ∧ (seq = false → Ext u' u'') ∧ (seq = false → Ext u u2) ∧ Ext u2 u'' ∧ k S' u2) (fun _ _ _ => False)) ∨
 (∃ s V', DoesStore P ops e.1 S e.2 s V' ∧ k (S.setVar s V') u) ∨
 (seq = false ∧ e.2 ≠ [] ∧ opK e.1.op ≠ 2 ∧ ∃ V n, DoesUp P ops e.1 S u (.lit V n) ∧ ∀ b u1, Ext u u1 → u1.heap[b]? = some (.cells V.cs.toArray V.ty (0, 0)) → u0.heap.size ≤ b → u.heap.size ≤ b → k (S.put e.1.dst (some (.v (.slice (some ⟨b, 0, none⟩) n n)))) u1)
def sym (seq : Bool) : List (Oper × List Tmp) → St → World → (St → World → Prop) → Prop
 | [], S, u, K => K S u
 | e :: rest, S, u, K => one P ops w0 u0 seq e S u (fun S' u' => sym seq rest S' u' K)
end

section
variable {P : Program} {ops : Array Oper} {w0 : Base} {u0 : World}
theorem DoesUp.mono {o : Oper} {S : St} {u u' : World} {up : Up} (h : DoesUp P ops o S u up) (e : Ext u u') : DoesUp P ops o S u' up := by
 cases up with
 | set x => exact ⟨h.1, h.2.imp (fun ⟨h1, h2⟩ => ⟨h1, fun B a w u'' hr he hd => h2 B a w u'' hr (e.trans he) hd⟩) id⟩
 | _ => exact h
def Mono (K : St → World → Prop) : Prop := ∀ S u u', Ext u u' → K S u → K S u'
theorem one_mono {seq : Bool} {e : Oper × List Tmp} {S : St} {u u' : World} {k k' : St → World → Prop} (hk : ∀ S u, k S u → k' S u) (hm : Mono k) (he : Ext u u') (h : one P ops w0 u0 seq e S u k) : one P ops w0 u0 seq e S u' k' := by
 rcases h with ⟨h0, up, h1, h2⟩ | ⟨h0, f, args, pubs, hp, h1, h2, h3⟩ | ⟨h0, h1⟩ | ⟨s, V', h1, h2⟩ | ⟨hs, hp2, hk2, V, n, h1, h2⟩
 ·exact .inl ⟨h0, up, h1.mono he, hk _ _ (hm _ _ _ he h2)⟩
 ·exact .inr (.inl ⟨h0, f, args, pubs, hp, h1, h2, fun B w u1 e1 d1 v1 => Post.mono (h3 B w u1 (he.trans e1) d1 v1) fun v u2 _ => hk _ _⟩)
 ·refine .inr (.inr (.inl ⟨h0, fun B a w u'' e1 r1 => ?_⟩))
  obtain ⟨g1, g2⟩ := h1 B a w u'' (he.trans e1) r1
  exact ⟨g1, Oper.wp_mono (fun a' w' ⟨S', B', u3, u2, a1, a2, a3, a4, a5⟩ => ⟨S', B', u3, u3, a1, a2, fun hs => e1.trans (a2 hs), Ext.refl _, hk _ _ (hm _ _ _ a4 a5)⟩) g2⟩
 ·exact .inr (.inr (.inr (.inl ⟨s, V', h1, hk _ _ (hm _ _ _ he h2)⟩)))
 ·exact .inr (.inr (.inr (.inr ⟨hs, hp2, hk2, V, n, h1.mono he, fun b u1 e1 b1 b2 b3 => hk _ _ (h2 b u1 (he.trans e1) b1 b2 (Nat.le_trans he.size b3))⟩)))
theorem zxy {seq : Bool} {l : List (Oper × List Tmp)} {K : St → World → Prop} (hK : Mono K) : Mono (fun S u => sym P ops w0 u0 seq l S u K) := by
 induction l with
 | nil => exact hK
 | cons e rest ih => exact fun S u u' he h => one_mono (fun _ _ h => h) ih he h
end
section
variable {P : Program} {ops : Array Oper} {w0 : Base} {u0 : World} {S : St} {B : Tmp → Nat} {a : Act} {w u : World} {o : Oper}
theorem put_reg_some {d : Option Tmp} {x : Option SV} {t : Tmp} {z : SV} (h : (S.put d x).reg t = some z) : (d = some t ∧ x = some z) ∨ (d ≠ some t ∧ S.reg t = some z) := by
 cases d with
 | none => exact .inr ⟨by simp, h⟩
 | some s =>
  by_cases e : t = s
  ·subst e; simp only [St.put, zxb] at h; exact .inl ⟨rfl, h⟩
  ·simp only [St.put, upd_ne _ _ e] at h; exact .inr ⟨fun k => by injection k with k; exact e k.symm, h⟩
theorem put_var (d : Option Tmp) (x : Option SV) : (S.put d x).var = S.var := by cases d <;> rfl
theorem put_n (d : Option Tmp) (x : Option SV) : (S.put d x).n = S.n := by cases d <;> rfl
theorem wf_put {d : Option Tmp} {x : Option SV} (h : S.Wf) (hx : ∀ z t, x = some z → z.at? = some t → ∃ V, S.var t = some V) : (S.put d x).Wf := by
 refine ⟨fun r z t hr ht => ?_⟩
 rw [put_var]
 rcases put_reg_some hr with ⟨_, e⟩ | ⟨_, e⟩
 ·exact hx z t e ht
 ·exact h.reg r z t e ht
theorem regOK_put {d : Option Tmp} {x : Option SV} {v : Value} (h : RegOK S B a) (hd : ∀ t, d = some t → t < S.n) (hx : ∀ z, x = some z → v = z.conc B) : RegOK (S.put d x) B (a.put d v) := by
 refine ⟨fun t z ht => ?_, by rw [put_n, Act.put_size]; exact h.size⟩
 rcases put_reg_some ht with ⟨rfl, e⟩ | ⟨hne, e⟩
 ·rw [Act.put_get_same _ _ (by rw [h.size]; exact hd t rfl), hx z e]
 ·rw [Act.put_get_ne _ _ hne]; exact h.reg t z e
theorem put_defers (a : Act) (d : Option Tmp) (v : Value) : (a.put d v).defers = a.defers := by cases d <;> rfl
theorem Rep.set {d : Option Tmp} {x : Option SV} {v : Value} (h : Rep w0 u0 S B a w u) (hd : ∀ t, d = some t → t < S.n) (hx : ∀ z, x = some z → v = z.conc B)
  (hf : ∀ z t, x = some z → z.at? = some t → ∃ V, S.var t = some V) : Rep w0 u0 (S.put d x) B (a.put d v) w u :=
 ⟨regOK_put h.regs hd hx, wf_put h.wf hf, by rw [put_defers]; exact h.defers, by rw [put_var, put_n]; exact h.var, by rw [put_var]; exact h.inj, h.dat, h.base, h.grow, h.bel⟩
theorem Rep.lt (h : Rep w0 u0 S B a w u) {t : Tmp} {V : Vr} (hv : S.var t = some V) : B t < w.heap.size := zyz (h.var t V hv).1
theorem zxk (w : World) (ob : Obj) {b : Nat} (h : b < w.heap.size) : (w.alloc ob).heap[b]? = w.heap[b]? := Below.heap_alloc w ob b h
theorem zxl (w : World) (ob : Obj) : (w.alloc ob).heap[w.heap.size]? = some ob := heap_alloc_new w ob
theorem alloc_size (w : World) (ob : Obj) : (w.alloc ob).heap.size = w.heap.size + 1 := by simp
theorem dat_alloc (h : Dat u w) (ob : Obj) : Dat (u.alloc hidO) (w.alloc ob) := by
 refine ⟨by rw [alloc_size, alloc_size, h.size], fun b o hb hh => ?_⟩
 rcases Nat.lt_or_ge b u.heap.size with hlt | hge
 ·rw [zxk _ _ hlt] at hb
  rw [zxk _ _ (by rw [← h.size]; exact hlt)]
  exact h.vis b o hb hh
 ·have : b = u.heap.size := by have := zyz hb; rw [alloc_size] at this; omega
  subst this
  rw [zxl] at hb
  injection hb with hb
  exact absurd hb.symm hh
theorem zxp (u : World) (ob : Obj) : Grow u (u.alloc ob) := ⟨by rw [alloc_size]; omega, fun b hb => zxk u ob hb⟩
def setB (B : Tmp → Nat) (t : Tmp) (b : Nat) : Tmp → Nat := fun s => if s = t then b else B s
theorem conc_setB {x : SV} {t : Tmp} {b : Nat} (h : x.at? ≠ some t) : x.conc (setB B t b) = x.conc B := by
 apply SV.conc_congr
 intro s hs
 rw [setB, if_neg]
 rintro rfl
 exact h hs
theorem Rep.new {t : Tmp} {V : Vr} {y : SV} (h : Rep w0 u0 S B a w u) (ht : t < S.n) (hn : S.var t = none) (hr : (S.reg t).bind SV.at? = none) (hy : y.at? = some t) :
  Rep w0 u0 { S with reg := upd S.reg t (some y), var := upd S.var t (some V) } (setB B t w.heap.size) (a.put (some t) (y.conc (setB B t w.heap.size))) (w.alloc (.cells V.cs.toArray V.ty)) (u.alloc hidO) := by
 have hno : ∀ r x, S.reg r = some x → x.at? ≠ some t := fun r x hx e => by
  obtain ⟨V', e'⟩ := h.wf.reg r x t hx e; rw [hn] at e'; cases e'
 have hus : u.heap.size = w.heap.size := h.dat.size
 refine ⟨⟨fun r x hx => ?_, by rw [Act.put_size]; exact h.regs.size⟩, ⟨fun r x s hx hs => ?_⟩, by rw [put_defers]; exact h.defers, fun s V' hs => ?_, fun s s' V1 V2 h1 h2 e => ?_, dat_alloc h.dat _, h.base, h.grow.trans (zxp _ _), ?_⟩
 ·by_cases e : r = t
  ·subst e
   simp only [zxb] at hx
   injection hx with hx
   subst hx
   exact Act.put_get_same _ _ (by rw [h.regs.size]; exact ht)
  ·simp only [upd_ne _ _ e] at hx
   rw [Act.put_get_ne _ _ (fun k => e (by injection k with k; exact k.symm)), conc_setB (hno r x hx)]
   exact h.regs.reg r x hx
 ·show ∃ V', upd S.var t (some V) s = some V'
  by_cases e : s = t
  ·subst e; exact ⟨V, zxb _ _ _⟩
  ·rw [upd_ne _ _ e]
   by_cases e2 : r = t
   ·subst e2
    simp only [zxb] at hx
    injection hx with hx
    subst hx
    rw [hy] at hs; injection hs with hs; exact absurd hs.symm e
   ·simp only [upd_ne _ _ e2] at hx
    exact h.wf.reg r x s hx hs
 ·by_cases e : s = t
  ·subst e
   simp only [zxb] at hs
   injection hs with hs
   subst hs
   rw [show setB B s w.heap.size s = w.heap.size by simp [setB]]
   refine ⟨zxl _ _, ?_, ?_⟩
   ·rw [← hus]; exact zxl _ _
   ·rw [← hus]; exact .mk0 ht h.grow.size
  ·simp only [upd_ne _ _ e] at hs
   obtain ⟨h1, h2, h3⟩ := h.var s V' hs
   rw [show setB B t w.heap.size s = B s by simp [setB, e]]
   exact ⟨by rw [zxk _ _ (h.lt hs)]; exact h1, by rw [zxk _ _ (zyz h2)]; exact h2, h3⟩
 ·by_cases e1 : s = t
  ·by_cases e2 : s' = t
   ·rw [e1, e2]
   ·simp only [upd_ne _ _ e2] at h2
    have := h.lt h2
    simp [setB, e1, e2] at e
    omega
  ·simp only [upd_ne _ _ e1] at h1
   by_cases e2 : s' = t
   ·have := h.lt h1
    simp [setB, e1, e2] at e
    omega
   ·simp only [upd_ne _ _ e2] at h2
    simp [setB, e1, e2] at e
    exact h.inj s s' V1 V2 h1 h2 e
 ·exact h.bel.alloc _
theorem run_val {P : Program} {w w' : World} {s : Sem Value} {v : Value} (h : s.run P w = .ok v w') : (do pure (Next.value (← s)) : Sem Next).run P w = .ok (.value v) w' := by
 simp [go_sem, h]
theorem addr_add (b off i : Nat) : (⟨b, off, none⟩ : Addr).add i = ⟨b, off + i, none⟩ := by simp [Addr.add]
theorem run_loadCells {P : Program} {w : World} {b : Nat} {l : List Value} : ∀ (n off : Nat) (acc : Array Value) (i : Nat), (∀ j, j < n → w.cell? ⟨b, off + i + j, none⟩ = l[i + j]?) → i + n ≤ l.length →
  (loadCellsFrom ⟨b, off, none⟩ i n acc).run P w = .ok (acc ++ ((l.drop i).take n).toArray) w := by
 intro n
 induction n with
 | zero => intro off acc i _ _; simp [loadCellsFrom, go_sem]
 | succ n ih =>
  intro off acc i h hl
  have h0 := h 0 xq
  simp only [Nat.add_zero] at h0
  have hi : i < l.length := by omega
  rw [List.getElem?_eq_getElem hi] at h0
  have e : (loadCellsFrom ⟨b, off, none⟩ i (n + 1) acc).run P w = (loadCellsFrom ⟨b, off, none⟩ (i + 1) n (acc.push l[i])).run P w := by
   simp [loadCellsFrom, go_sem, addr_add, h0]
  rw [e, ih off _ (i + 1) (fun j hj => by have := h (j + 1) xq; rw [show off + (i + 1) + j = off + i + (j + 1) by omega, show i + 1 + j = i + (j + 1) by omega]; exact this) xq]
  congr 1
  rw [List.drop_eq_getElem_cons hi, List.take_succ_cons]
  simp
theorem run_load_var {T : TypeId} {agg : Bool} {n b off : Nat} {cs : List Value} {ty : TypeId} {w : World} (hT : TyIs P T agg n) (hb : w.heap[b]? = some (.cells cs.toArray ty (0, 0))) :
  (agg = true → off + n ≤ cs.length → (Instr.loadAt T (.pointer (some ⟨b, off, none⟩))).run P w = .ok (.agg ((cs.drop off).take n).toArray) w) ∧
  (agg = false → ∀ v, cs[off]? = some v → (Instr.loadAt T (.pointer (some ⟨b, off, none⟩))).run P w = .ok v w) := by
 have hc : ∀ i, w.cell? ⟨b, i, none⟩ = cs[i]? := fun i => by simp [World.cell?, hb]
 refine ⟨?_, ?_⟩
 ·rintro rfl hl
  have e := run_loadCells (P := P) (w := w) (b := b) (l := cs.drop off) n off #[] 0 (fun j hj => by rw [hc]; simp [Nat.add_comm]) yz
  simp only [List.drop_zero] at e
  have e2 : (Instr.loadAt T (.pointer (some ⟨b, off, none⟩))).run P w = (do let x ← loadCells ⟨b, off, none⟩ n; pure (.agg x) : Sem Value).run P w := by
   simp [Instr.loadAt, Instr.sureAddr, loadVar, go_sem, (hT w).1, (hT w).2]
  rw [e2]
  simp [loadCells, go_sem, e]
 ·rintro rfl v hv
  simp [Instr.loadAt, Instr.sureAddr, loadVar, go_sem, (hT w).1, hc, hv]
theorem run_bind_ok {α β : Type} {s : Sem α} {k : α → Sem β} {v : α} {w' : World} (h : s.run P w = .ok v w') : (s >>= k).run P w = (k v).run P w' := by
 rw [show (s >>= k).run P w = (s.run P w).andThen (fun a w' => (k a).run P w') from by simp [go_sem], h]
 rfl
theorem setL_length {cs : List Value} {off : Nat} {vs : List Value} (h : off + vs.length ≤ cs.length) : (setL cs off vs).length = cs.length := by
 simp [setL]; omega
theorem setL_nil (cs : List Value) (off : Nat) : setL cs off [] = cs := by simp [setL]
theorem setL_cons {cs : List Value} {off : Nat} {v : Value} {vs : List Value} (h : off < cs.length) : setL (cs.set off v) (off + 1) vs = setL cs off (v :: vs) := by
 simp only [setL, List.length_cons]
 rw [List.drop_set_of_lt xq, show off + 1 + vs.length = off + (vs.length + 1) by omega]
 congr 1
 rw [List.take_set, List.take_succ_eq_append_getElem h, List.set_append_right _ _ yz]
 simp [Nat.min_eq_left (Nat.le_of_lt h)]
structure OnlyB (b : Nat) (w w' : World) : Prop where
 os : w'.os = w.os
 tape : w'.tape = w.tape
 output : w'.output = w.output
 size : w'.heap.size = w.heap.size
 far : ∀ k, k ≠ b → w'.heap[k]? = w.heap[k]?
theorem OnlyB.refl (b : Nat) (w : World) : OnlyB b w w := ⟨rfl, rfl, rfl, rfl, fun _ _ => rfl⟩
theorem OnlyB.trans {b : Nat} {w w' w'' : World} (h : OnlyB b w w') (k : OnlyB b w' w'') : OnlyB b w w'' := ⟨k.os.trans h.os, k.tape.trans h.tape, k.output.trans h.output, k.size.trans h.size, fun i hi => (k.far i hi).trans (h.far i hi)⟩
theorem onlyB_setCell (w : World) (b i : Nat) (v : Value) : OnlyB b w (w.setCell ⟨b, i, none⟩ v) := ⟨rfl, rfl, rfl, by simp [World.setCell], fun k hk => Below.heap_setCell _ _ _ _ hk⟩
theorem run_storeCells {b : Nat} {ty : TypeId} {base : Nat} : ∀ (vs : List Value) (i : Nat) (w : World) (cs : List Value), w.heap[b]? = some (.cells cs.toArray ty (0, 0)) → base + i + vs.length ≤ cs.length → (∀ v ∈ vs, v.oneCell' = true) →
  ∃ w', (storeCells ⟨b, base, none⟩ vs i).run P w = .ok () w' ∧ w'.heap[b]? = some (.cells (setL cs (base + i) vs).toArray ty (0, 0)) ∧ OnlyB b w w'
 | [], i, w, cs, h, hl, hv => ⟨w, rfl, by rw [setL_nil]; exact h, OnlyB.refl _ _⟩
 | v :: vs, i, w, cs, h, hl, hv => by
  simp only [List.length_cons] at hl
  have hlt : base + i < cs.length := by omega
  have h1 : (w.setCell ⟨b, base + i, none⟩ v).heap[b]? = some (.cells (cs.set (base + i) v).toArray ty (0, 0)) := by
   simp [World.setCell, Array.getElem?_modify, h]
  obtain ⟨w', k1, k2, k3⟩ := run_storeCells (b := b) (ty := ty) (base := base) vs (i + 1) _ _ h1 yz (fun v hv' => hv v (List.mem_cons_of_mem _ hv'))
  refine ⟨w', ?_, ?_, (onlyB_setCell w b _ v).trans k3⟩
  ·have hc : w.cell? ⟨b, base + i, none⟩ = some cs[base + i] := by simp [World.cell?, h, hlt]
   have hf : w.frozen? ⟨b, base + i, none⟩ = false := by simp [World.frozen?, h]
   have e : (store (⟨b, base + i, none⟩ : Addr) v).run P w = .ok () (w.setCell ⟨b, base + i, none⟩ v) := by
    rw [run_store P w _ v _ (hv v (List.mem_cons_self ..)), hc, hf]; rfl
   have e2 : (storeCells ⟨b, base, none⟩ (v :: vs) i).run P w = (do store ((⟨b, base, none⟩ : Addr).add i) v; storeCells ⟨b, base, none⟩ vs (i + 1) : Sem Unit).run P w := rfl
   rw [e2, addr_add, run_bind_ok e]
   exact k1
  ·rw [← setL_cons hlt, Nat.add_assoc]; exact k2
theorem Rep.store {s : Tmp} {V V' : Vr} {w' : World} (h : Rep w0 u0 S B a w u) (hs : S.var s = some V) (h1 : w'.heap[B s]? = some (.cells V'.cs.toArray V'.ty (0, 0))) (h2 : OnlyB (B s) w w') : Rep w0 u0 (S.setVar s V') B a w' u := by
 have hg := (h.var s V hs).2
 refine ⟨⟨h.regs.reg, h.regs.size⟩, ⟨fun r x t hx ht => ?_⟩, h.defers, fun t V1 hV1 => ?_, fun t t' V1 V2 e1 e2 e => ?_, ⟨by rw [h2.size]; exact h.dat.size, fun b o hb hh => ?_⟩, h.base, h.grow, ?_⟩
 ·obtain ⟨V1, hV1⟩ := h.wf.reg r x t hx ht
  by_cases e : t = s
  ·subst e; exact ⟨V', zxb _ _ _⟩
  ·exact ⟨V1, by show upd S.var s (some V') t = _; rw [upd_ne _ _ e]; exact hV1⟩
 ·by_cases e : t = s
  ·subst e
   simp only [St.setVar, zxb] at hV1
   injection hV1 with hV1
   subst hV1
   exact ⟨h1, hg⟩
  ·simp only [St.setVar, upd_ne _ _ e] at hV1
   obtain ⟨g1, g2, g3⟩ := h.var t V1 hV1
   exact ⟨by rw [h2.far _ (fun k => e (h.inj t s V1 V hV1 hs k))]; exact g1, g2, g3⟩
 ·have key : ∀ t V1, (S.setVar s V').var t = some V1 → ∃ V2, S.var t = some V2 := fun t V1 hV => by
   by_cases e : t = s
   ·exact ⟨V, by rw [e]; exact hs⟩
   ·simp only [St.setVar, upd_ne _ _ e] at hV; exact ⟨V1, hV⟩
  obtain ⟨X, hX⟩ := key t V1 e1
  obtain ⟨Y, hY⟩ := key t' V2 e2
  exact h.inj t t' X Y hX hY e
 ·by_cases e : b = B s
  ·subst e; rw [hg.1] at hb; injection hb with hb; exact absurd hb.symm hh
  ·rw [h2.far b e]; exact h.dat.vis b o hb hh
 ·have hb := h.bel
  refine ⟨h2.os.trans hb.os, h2.tape.trans hb.tape, h2.output.trans hb.output, by rw [h2.size]; exact hb.size, fun k hk hl hf => (h2.far k ?_).trans (hb.block k hk hl hf)⟩
  rintro rfl
  rcases Nat.lt_or_ge s S.n with hs3 | hs3
  ·have h3 := hg.2.1 hs3
   rw [h.base] at h3
   omega
  ·exact hl _ (hg.2.2 hs3)
theorem DoesStore.sound {nl : List Tmp} {s : Tmp} {V' : Vr} (h : DoesStore P ops o S nl s V') (hr : Rep w0 u0 S B a w u) :
  Region.wanted o (yielded ops a.tmps) = true ∧ ∃ w', (execOp a.eval o).run P w = .ok .skip w' ∧ Rep w0 u0 (S.setVar s V') B (a.put o.dst undef) w' u := by
 obtain ⟨T, r, z, off, V, v, agg, n, hop, hd, hreg, hv, hz, hT, hn, hone, hl, hV, hw, _⟩ := h
 obtain ⟨g1, g2, g3⟩ := hr.var s V hv
 obtain ⟨w', k1, k2, k3⟩ := run_storeCells (P := P) (b := B s) (ty := V.ty) (base := off) v.cells.toList 0 w V.cs g1 yz (List.all_eq_true.1 hone)
 have hev : a.eval (.tmp r) = .pointer (some ⟨B s, off, none⟩) := hr.regs.eval hreg
 have hez : a.eval z = v := hz B a hr.regs
 refine ⟨hw B a hr.regs, w', ?_, ?_⟩
 ·have e1 : (execOp a.eval o).run P w = (do Instr.storeAt T (a.eval (.tmp r)) (a.eval z); pure Next.skip : Sem Next).run P w := by
   unfold execOp; rw [hop]
  have e2 : (Instr.storeAt T (.pointer (some ⟨B s, off, none⟩)) v).run P w = .ok () w' := by
   have e3 : (Instr.storeAt T (.pointer (some ⟨B s, off, none⟩)) v).run P w = (storeVar T ⟨B s, off, none⟩ v).run P w := rfl
   rw [e3]
   unfold storeVar
   rw [run_bind_ok (hT w).2, if_neg (by simp [hn])]
   exact k1
  rw [e1, hev, hez, run_bind_ok e2]
  rfl
 ·rw [hd]
  exact hr.store (V' := V') hv (by rw [hV]; simpa using k2) k3
end
section
variable {P : Program} {ops : Array Oper} {w0 : Base} {u0 : World} {S : St} {B : Tmp → Nat} {a : Act} {w u u' : World} {o : Oper}
def pubW (u w : World) (bs : List Nat) : World := { u with heap := u.heap.mapIdx fun b ob => if b ∈ bs then (w.heap[b]?).getD ob else ob }
theorem pubW_size (u w : World) (bs : List Nat) : (pubW u w bs).heap.size = u.heap.size := by simp [pubW]
theorem pubW_out {bs : List Nat} {b : Nat} (h : b ∉ bs) : (pubW u w bs).heap[b]? = u.heap[b]? := by
 simp only [pubW, Array.getElem?_mapIdx, h, if_false]
 cases u.heap[b]? <;> rfl
theorem pubW_in {bs : List Nat} {b : Nat} (h : b ∈ bs) (hb : b < u.heap.size) (hs : u.heap.size = w.heap.size) : (pubW u w bs).heap[b]? = w.heap[b]? := by
 have hw : b < w.heap.size := by omega
 simp only [pubW, Array.getElem?_mapIdx, h, if_true]
 rw [Array.getElem?_eq_getElem hb, Array.getElem?_eq_getElem hw]
 rfl
theorem pubW_dat {bs : List Nat} (h : Dat u w) : Dat (pubW u w bs) w := by
 refine ⟨by rw [pubW_size]; exact h.size, fun b ob hb hh => ?_⟩
 by_cases e : b ∈ bs
 ·have hlt := zyz hb
  rw [pubW_size] at hlt
  rw [pubW_in e hlt h.size] at hb
  exact hb
 ·rw [pubW_out e] at hb; exact h.vis b ob hb hh
theorem pubW_ext {bs : List Nat} (h : Dat u w) : Ext u (pubW u w bs) := by
 refine ⟨Nat.le_of_eq (pubW_size _ _ _).symm, fun b ob hb hh => ?_⟩
 by_cases e : b ∈ bs
 ·rw [pubW_in e (zyz hb) h.size]; exact h.vis b ob hb hh
 ·rw [pubW_out e]; exact hb
theorem pubW_grow {bs F : List Nat} (h : GrowF F u0 u) (hb : ∀ b ∈ bs, u0.heap.size ≤ b) : GrowF F u0 (pubW u w bs) := by
 refine ⟨by rw [pubW_size]; exact h.size, fun b hlt hf => ?_⟩
 rw [pubW_out (fun e => by have := hb b e; omega)]
 exact h.old b hlt hf
theorem wp_noQ {K : Act → World → Prop} {Q : Exit → Act → World → Prop} (h : o.wp P a w K (fun _ _ _ => False)) : o.wp P a w K Q := by
 unfold Oper.wp at *
 generalize (execOp a.eval o).run P w = r at *
 cases r with
 | ok n w' =>
  cases n <;> simp only [Oper.upon] at h ⊢ <;> first | exact h | skip
  refine Calls.mono h fun e w'' he => ?_
  cases e with
  | returned v => exact he
  | panicked c => exact he.elim
  | outgrown => obtain ⟨_, _, h⟩ := he; exact h.elim
 | halt x w' => cases x <;> simp only [Oper.upon] at h ⊢
theorem Rep.called {pubs : List Tmp} {u2 w2 : World} (h : Rep w0 u0 S B a w u) (hp : PubOK S pubs) (hd : Dat u2 w2) (hb : Below w.heap.size w w2) (hg : Grow (pubW u w ((S.pv pubs).map B)) u2) {d : Option Tmp} (hfd : ∀ t, d = some t → t < S.n) (v : Value) :
  Rep w0 u0 ((S.unpub pubs).put d (some (.v v))) B (a.put d v) w2 u2 := by
 have hreg : ∀ r x, (S.unpub pubs).reg r = some x → S.reg r = some x ∧ r ∉ pubs := fun r x hx => by
  simp only [St.unpub] at hx
  cases e : pubs.contains r with
  | true => rw [e] at hx; cases hx
  | false => rw [e] at hx; exact ⟨hx, fun hm => by rw [List.contains_iff_mem.2 hm] at e; cases e⟩
 have hvar : ∀ t V, (S.unpub pubs).var t = some V → S.var t = some V ∧ t ∉ pubs := fun t V hx => by
  simp only [St.unpub] at hx
  cases e : pubs.contains t with
  | true => rw [e] at hx; cases hx
  | false => rw [e] at hx; exact ⟨hx, fun hm => by rw [List.contains_iff_mem.2 hm] at e; cases e⟩
 have hvar' : ∀ t V, S.var t = some V → t ∉ pubs → (S.unpub pubs).var t = some V := fun t V hx hn => by
  simp only [St.unpub]
  have : pubs.contains t = false := by
   cases e : pubs.contains t with
   | true => exact absurd (List.contains_iff_mem.1 e) hn
   | false => rfl
  rw [this]; exact hx
 have hwf : (S.unpub pubs).Wf := by
  refine ⟨fun r x t hr ht => ?_⟩
  obtain ⟨h1, h2⟩ := hreg r x hr
  obtain ⟨V, hV⟩ := h.wf.reg r x t h1 ht
  exact ⟨V, hvar' t V hV fun hm => h2 (hp.reg r x t h1 ht hm)⟩
 refine ⟨regOK_put ⟨fun t x hx => h.regs.reg t x (hreg t x hx).1, h.regs.size⟩ hfd (fun z e => by injection e with e; rw [← e]; rfl), wf_put hwf (fun z t e ht => by injection e with e; rw [← e] at ht; cases ht), by rw [put_defers]; exact h.defers, ?_, ?_, hd, h.base, ?_, h.bel.trans (hb.mono h.bel.size)⟩
 ·rw [put_var, put_n]
  intro t V hV
  obtain ⟨h1, h2⟩ := hvar t V hV
  obtain ⟨g1, g2, g3⟩ := h.var t V h1
  have hlt := h.lt h1
  refine ⟨by rw [hb.block _ hlt]; exact g1, ?_, g3⟩
  rw [hg.old _ (by rw [pubW_size, h.dat.size]; exact hlt), pubW_out]
  ·exact g2
  ·intro hm
   obtain ⟨s, hs, e⟩ := List.mem_map.1 hm
   obtain ⟨hs, hk⟩ := List.mem_filter.1 hs
   obtain ⟨Vs, hVs⟩ := Option.isSome_iff_exists.1 hk
   exact h2 (h.inj s t Vs V hVs h1 e ▸ hs)
 ·rw [put_var]
  intro t t' V V' h1 h2 e
  exact h.inj t t' V V' (hvar t V h1).1 (hvar t' V' h2).1 e
 ·refine GrowF.trans (pubW_grow h.grow fun b hb => ?_) hg
  obtain ⟨s, hs, rfl⟩ := List.mem_map.1 hb
  obtain ⟨hs, hk⟩ := List.mem_filter.1 hs
  obtain ⟨Vs, hVs⟩ := Option.isSome_iff_exists.1 hk
  exact (h.var s Vs hVs).2.2.1 (hp.lt s hs)
theorem From.wf {x : SV} (h : From ops o S x) (hS : S.Wf) : ∀ t, x.at? = some t → ∃ V, S.var t = some V := fun t ht => by
 obtain ⟨r, _, z, hz, hzt⟩ := h t ht
 exact hS.reg r z t hz hzt
theorem part_wf {cs : List Value} {off n : Nat} {agg : Bool} {x : SV} (h : PartIs cs off agg n x) : x.at? = none := by
 cases agg with
 | true => obtain ⟨_, rfl⟩ := h; rfl
 | false => obtain ⟨_, _, rfl⟩ := h; rfl
theorem dat_vis (h : Dat u w) (ob : Obj) : Dat (u.alloc ob) (w.alloc ob) := by
 refine ⟨by rw [alloc_size, alloc_size, h.size], fun b o hb hh => ?_⟩
 rcases Nat.lt_or_ge b u.heap.size with hlt | hge
 ·rw [zxk _ _ hlt] at hb
  rw [zxk _ _ (by rw [← h.size]; exact hlt)]
  exact h.vis b o hb hh
 ·have : b = u.heap.size := by have := zyz hb; rw [alloc_size] at this; omega
  subst this
  rw [zxl] at hb
  rw [h.size, zxl]
  exact hb
theorem Rep.vis (h : Rep w0 u0 S B a w u) (ob : Obj) : Rep w0 u0 S B a (w.alloc ob) (u.alloc ob) :=
 ⟨h.regs, h.wf, h.defers, fun t V hV => by
  obtain ⟨h1, h2, h3⟩ := h.var t V hV
  exact ⟨by rw [zxk _ _ (h.lt hV)]; exact h1, by rw [zxk _ _ (zyz h2)]; exact h2, h3⟩, h.inj, dat_vis h.dat ob, h.base, h.grow.trans (zxp _ _), h.bel.alloc _⟩
theorem one_sound {seq : Bool} {e : Oper × List Tmp} {k : St → World → Prop} {Q : Exit → Act → World → Prop} (hk : Mono k) (h : one P ops w0 u0 seq e S u k) (he : Ext u u') (hr : Rep w0 u0 S B a w u') :
  if Region.wanted e.1 (yielded ops a.tmps) then e.1.wp P a w (fun a' w' => ∃ S' B' u'', Rep w0 u0 S' B' a' w' u'' ∧ (seq = false → Ext u' u'') ∧ k S' u'') Q
  else ∃ S' B' u'', Rep w0 u0 S' B' (a.put e.1.dst undef) w u'' ∧ (seq = false → Ext u' u'') ∧ k S' u'' := by
 rcases h with ⟨h0, up, h1, h2⟩ | ⟨h0, f, args, pubs, hp, h1, h2, h3⟩ | ⟨h0, h1⟩ | ⟨s, V', h1, h2⟩ | ⟨hs, hp2, hk2, V, n, h1, h2⟩
 ·cases up with
  | drop =>
   obtain ⟨hf, hw⟩ := h1
   have hw := hw B a hr.regs
   unfold Want at hw
   rw [hw, if_neg (by simp)]
   exact ⟨_, B, u', hr.set (x := some (.v undef)) (fun t e => (hf t e).1) (fun z e => by injection e with e; rw [← e]; rfl) (fun z t e ht => by injection e with e; rw [← e] at ht; cases ht), fun _ => Ext.refl _, hk _ _ _ he h2⟩
  | set x =>
   obtain ⟨hf, hx⟩ := h1
   have key : Region.wanted e.1 (yielded ops a.tmps) = true ∧ (execOp a.eval e.1).run P w = .ok (.value (x.conc B)) w ∧ ∀ t, x.at? = some t → ∃ V, S.var t = some V := by
    rcases hx with ⟨hx1, hx2⟩ | ⟨T, r, s, off, V, agg, n, g1, g2, g3, g4, g5, g6⟩
    ·obtain ⟨e1, e2⟩ := hx2 B a w u' hr.regs he hr.dat
     exact ⟨e1, e2, hx1.wf hr.wf⟩
    ·refine ⟨g6 B a hr.regs, ?_, fun t ht => ?_⟩
     ·have hv := (hr.var s V g3).1
      obtain ⟨r1, r2⟩ := run_load_var (P := P) (off := off) g4 hv
      have hev := hr.regs.eval g2
      have hex : (execOp a.eval e.1).run P w = (do pure (Next.value (← Instr.loadAt T (.pointer (some ⟨B s, off, none⟩)))) : Sem Next).run P w := by
       unfold execOp
       rw [g1]
       show (do pure (Next.value (← Instr.loadAt T (a.eval (.tmp r)))) : Sem Next).run P w = _
       rw [hev]
       rfl
      rw [hex]
      cases agg with
      | true =>
       obtain ⟨l2, rfl⟩ := g5
       exact run_val (r1 rfl l2)
      | false =>
       obtain ⟨v, l1, rfl⟩ := g5
       exact run_val (r2 rfl _ l1)
     ·rw [part_wf g5] at ht; cases ht
   obtain ⟨k1, k2, k3⟩ := key
   rw [k1, if_pos rfl]
   unfold Oper.wp
   rw [k2]
   exact ⟨_, B, u', hr.set (fun t e => (hf t e).1) (fun z e => by injection e with e; rw [e]) (fun z t e => by injection e with e; rw [← e]; exact k3 t), fun _ => Ext.refl _, hk _ _ _ he h2⟩
  | new V =>
   obtain ⟨hf, t, g1, g2, g4⟩ := h1
   obtain ⟨e1, e2⟩ := g4 B a w hr.regs
   unfold Want at e1
   rw [e1, if_pos rfl]
   unfold Oper.wp
   rw [e2]
   refine ⟨_, setB B t w.heap.size, u'.alloc hidO, ?_, fun _ => (zxp _ _).ext, hk _ _ _ (he.trans (zxp _ _).ext) h2⟩
   have := hr.new (V := V) (y := .adr t 0) (hf t g1).1 g2 (hf t g1).2 rfl
   rw [g1]
   simpa [SV.conc, setB, St.app] using this
  | lit V n =>
   obtain ⟨hf, t, g1, g2, g4⟩ := h1
   obtain ⟨e1, e2⟩ := g4 B a w hr.regs
   unfold Want at e1
   rw [e1, if_pos rfl]
   unfold Oper.wp
   rw [e2]
   refine ⟨_, setB B t w.heap.size, u'.alloc hidO, ?_, fun _ => (zxp _ _).ext, hk _ _ _ (he.trans (zxp _ _).ext) h2⟩
   have := hr.new (V := V) (y := .slc t 0 n n) (hf t g1).1 g2 (hf t g1).2 rfl
   rw [g1]
   simpa [SV.conc, setB, St.app] using this
 ·obtain ⟨hf, _, h1⟩ := h1
  obtain ⟨e1, e2⟩ := h1 B a w hr.regs
  unfold Want at e1
  rw [e1, if_pos rfl]
  unfold Oper.wp
  rw [e2]
  have hvis : Visible S B (pubW u' w ((S.pv pubs).map B)) pubs := fun t ht V hV => by
   obtain ⟨v1, v2, _⟩ := hr.var t V hV
   rw [pubW_in (List.mem_map_of_mem (show t ∈ S.pv pubs from List.mem_filter.2 ⟨ht, by rw [hV]; rfl⟩)) (zyz v2) hr.dat.size]
   exact v1
  refine (h3 B w (pubW u' w ((S.pv pubs).map B)) (he.trans (pubW_ext hr.dat)) (pubW_dat hr.dat) hvis).mono fun en w2 ⟨v, u2, q1, q2, q3, q4, q5⟩ => ?_
  subst q1
  exact ⟨_, B, u2, hr.called h2 q2 q3 q4 (fun t e => (hf t e).1) v, fun _ => (pubW_ext hr.dat).trans q4.ext, q5⟩
 ·obtain ⟨e1, e2⟩ := h1 B a w u' he hr
  unfold Want at e1
  rw [e1, if_pos rfl]
  exact wp_noQ (Oper.wp_mono (fun a' w' ⟨S', B', u3, u2, a1, a2, a3, a4, a5⟩ => ⟨S', B', u3, a1, a2, hk _ _ _ a4 a5⟩) e2)
 ·obtain ⟨e1, w', e2, e3⟩ := h1.sound hr
  rw [e1, if_pos rfl]
  unfold Oper.wp
  rw [e2]
  exact ⟨_, B, u', e3, fun _ => Ext.refl _, hk _ _ _ he h2⟩
 ·obtain ⟨hf, t, g1, g2, g4⟩ := h1
  obtain ⟨e1, e2⟩ := g4 B a w hr.regs
  unfold Want at e1
  rw [e1, if_pos rfl]
  unfold Oper.wp
  rw [e2]
  have hsz : u'.heap.size = w.heap.size := hr.dat.size
  refine ⟨_, B, u'.alloc (.cells V.cs.toArray V.ty), ?_, fun _ => (zxp _ _).ext, h2 w.heap.size _ (he.trans (zxp _ _).ext) (by rw [← hsz]; exact zxl _ _) (by rw [← hsz]; exact hr.grow.size) (by rw [← hsz]; exact he.size)⟩
  exact (hr.vis _).set (d := e.1.dst) (x := some (.v (.slice (some ⟨w.heap.size, 0, none⟩) n n))) (fun t e => (hf t e).1) (fun z e => by injection e with e; rw [← e]; rfl) (fun z t e ht => by injection e with e; rw [← e] at ht; cases ht)
end
section
variable {P : Program} {ops : Array Oper} {w0 : Base} {u0 : World} {S : St} {B : Tmp → Nat} {a : Act} {w u u' : World} {o x y : Oper}
def Agree (ts : List Tmp) (a b : Act) : Prop := ∀ t ∈ ts, a.tmps[t]? = b.tmps[t]?
theorem eval_agree {b : Act} (h : Agree (o.looksAt ops) a b) : ∀ z ∈ o.op.operands, a.eval z = b.eval z := by
 intro z hz
 cases z with
 | tmp t =>
  have := h t (List.mem_append_left _ (List.mem_filterMap.2 ⟨.tmp t, by simpa using hz, rfl⟩))
  simp [Act.eval, this]
 | _ => rfl
theorem exec_agree {b : Act} (hs : ∀ cs q, o.op ≠ .select cs q) (h : Agree (o.looksAt ops) a b) : execOp a.eval o = execOp b.eval o := execOp_congr o hs (eval_agree h)
theorem zxv {b : Act} (h : Agree (o.looksAt ops) a b) (v : Bool) : Want ops o a v ↔ Want ops o b v := by
 unfold Want Region.wanted
 cases hg : o.guard with
 | none => exact Iff.rfl
 | some gw =>
  obtain ⟨g, want⟩ := gw
  have hy : yielded ops a.tmps g = yielded ops b.tmps g := by
   unfold yielded
   cases ht : (ops[g]?).bind (·.dst) with
   | none => rfl
   | some t =>
    have := h t (List.mem_append_right _ (by simp [hg, ht]))
    simp [this]
  simp only [hy]
theorem agree_put {ts : List Tmp} {d : Option Tmp} {v : Value} (h : ∀ t, d = some t → t ∉ ts) : Agree ts (a.put d v) a := fun t ht => Act.put_get_ne _ _ (fun e => h t e ht)
theorem zxw {d : Option Tmp} {up : Up} {r : Tmp} (h : d ≠ some r) : (S.app d up).reg r = S.reg r := by
 cases d with
 | none => cases up <;> rfl
 | some t =>
  have h' : r ≠ t := fun e => h (by rw [e])
  cases up <;> simp only [St.app, St.put] <;> exact upd_ne _ _ h'
theorem app_var_ne {d : Option Tmp} {up : Up} {r : Tmp} (h : d ≠ some r) : (S.app d up).var r = S.var r := by
 cases d with
 | none => cases up <;> rfl
 | some t =>
  have h' : r ≠ t := fun e => h (by rw [e])
  cases up <;> simp only [St.app, St.put] <;> first | exact upd_ne _ _ h' | rfl
theorem app_n (d : Option Tmp) (up : Up) : (S.app d up).n = S.n := by cases d <;> cases up <;> rfl
theorem up_var {up : Up} (h : DoesUp P ops x S u up) {s : Tmp} {V : Vr} (hs : S.var s = some V) : (S.app x.dst up).var s = some V := by
 by_cases e : x.dst = some s
 ·cases up with
  | set z => rw [St.app, put_var]; exact hs
  | drop => rw [St.app, put_var]; exact hs
  | new V' => obtain ⟨_, t, g1, g2, _⟩ := h; rw [e] at g1; injection g1 with g1; subst g1; rw [hs] at g2; cases g2
  | lit V' n => obtain ⟨_, t, g1, g2, _⟩ := h; rw [e] at g1; injection g1 with g1; subst g1; rw [hs] at g2; cases g2
 ·rw [app_var_ne e]; exact hs
theorem up_free {up : Up} (h : DoesUp P ops x S u up) : Free x S := by cases up <;> exact h.1
theorem wf_app {up : Up} (hS : S.Wf) (h : DoesUp P ops x S u up) : (S.app x.dst up).Wf := by
 cases up with
 | drop => exact wf_put hS (fun z t e ht => by injection e with e; rw [← e] at ht; cases ht)
 | set z =>
  refine wf_put hS fun z' t e ht => ?_
  injection e with e
  subst e
  rcases h.2 with ⟨h1, _⟩ | ⟨T, r, s, off, V, agg, n, g1, g2, g3, g4, g5, g6⟩
  ·exact h1.wf hS t ht
  ·rw [part_wf g5] at ht; cases ht
 | new V =>
  have hup := h
  obtain ⟨hf, t, g1, g2, g4⟩ := h
  refine ⟨fun r z s hr hs => ?_⟩
  by_cases e : s = t
  ·subst e; rw [g1]; exact ⟨V, zxb _ _ _⟩
  ·by_cases e2 : x.dst = some r
   ·rw [g1] at e2 hr; injection e2 with e2; subst e2
    simp only [St.app, zxb] at hr; injection hr with hr; subst hr
    injection hs with hs; exact absurd hs.symm e
   ·rw [zxw e2] at hr
    obtain ⟨V', hV'⟩ := hS.reg r z s hr hs
    exact ⟨V', up_var hup hV'⟩
 | lit V n =>
  have hup := h
  obtain ⟨hf, t, g1, g2, g4⟩ := h
  refine ⟨fun r z s hr hs => ?_⟩
  by_cases e : s = t
  ·subst e; rw [g1]; exact ⟨V, zxb _ _ _⟩
  ·by_cases e2 : x.dst = some r
   ·rw [g1] at e2 hr; injection e2 with e2; subst e2
    simp only [St.app, zxb] at hr; injection hr with hr; subst hr
    injection hs with hs; exact absurd hs.symm e
   ·rw [zxw e2] at hr
    obtain ⟨V', hV'⟩ := hS.reg r z s hr hs
    exact ⟨V', up_var hup hV'⟩
theorem reg_fore {up : Up} (hS : S.Wf) (h : DoesUp P ops x S u up) (hr : RegOK S B a) :
  ∃ B1 v, RegOK (S.app x.dst up) B1 (a.put x.dst v) ∧ ∀ t V, S.var t = some V → B1 t = B t := by
 have hf := up_free h
 cases up with
 | drop => exact ⟨B, undef, regOK_put (x := some (.v undef)) hr (fun t e => (hf t e).1) (fun z e => by injection e with e; rw [← e]; rfl), fun _ _ _ => rfl⟩
 | set z => exact ⟨B, z.conc B, regOK_put hr (fun t e => (hf t e).1) (fun z' e => by injection e with e; rw [e]), fun _ _ _ => rfl⟩
 | new V =>
  obtain ⟨_, t, g1, g2, g4⟩ := h
  refine ⟨setB B t 0, (SV.adr t 0).conc (setB B t 0), ?_, fun s V' hs => ?_⟩
  ·rw [g1]
   refine ⟨fun r z hz => ?_, by rw [Act.put_size]; exact hr.size⟩
   by_cases e : r = t
   ·subst e
    simp only [St.app, zxb] at hz; injection hz with hz; subst hz
    exact Act.put_get_same _ _ (by rw [hr.size]; exact (hf r g1).1)
   ·simp only [St.app, upd_ne _ _ e] at hz
    rw [Act.put_get_ne _ _ (fun k => e (by injection k with k; exact k.symm)), conc_setB (fun k => by obtain ⟨V', e'⟩ := hS.reg r z t hz k; rw [g2] at e'; cases e')]
    exact hr.reg r z hz
  ·rw [setB, if_neg]; rintro rfl; rw [g2] at hs; cases hs
 | lit V n =>
  obtain ⟨_, t, g1, g2, g4⟩ := h
  refine ⟨setB B t 0, (SV.slc t 0 n n).conc (setB B t 0), ?_, fun s V' hs => ?_⟩
  ·rw [g1]
   refine ⟨fun r z hz => ?_, by rw [Act.put_size]; exact hr.size⟩
   by_cases e : r = t
   ·subst e
    simp only [St.app, zxb] at hz; injection hz with hz; subst hz
    exact Act.put_get_same _ _ (by rw [hr.size]; exact (hf r g1).1)
   ·simp only [St.app, upd_ne _ _ e] at hz
    rw [Act.put_get_ne _ _ (fun k => e (by injection k with k; exact k.symm)), conc_setB (fun k => by obtain ⟨V', e'⟩ := hS.reg r z t hz k; rw [g2] at e'; cases e')]
    exact hr.reg r z hz
  ·rw [setB, if_neg]; rintro rfl; rw [g2] at hs; cases hs
theorem from_back {up : Up} {z : SV} (h : DoesUp P ops x S u up) (hxy : ∀ d, x.dst = some d → d ∉ y.looksAt ops) (hz : From ops y (S.app x.dst up) z) : From ops y S z := fun t ht => by
 obtain ⟨r, hr, z', h1, h2⟩ := hz t ht
 exact ⟨r, hr, z', by rw [← zxw (fun e => hxy r e hr)]; exact h1, h2⟩
theorem free_back {up : Up} (hne : ∀ d, x.dst = some d → y.dst ≠ some d) (hz : Free y (S.app x.dst up)) : Free y S := fun d hd => by
 obtain ⟨h1, h2⟩ := hz d hd
 rw [app_n] at h1
 rw [zxw (fun e => hne d e hd)] at h2
 exact ⟨h1, h2⟩
theorem load_looks {T : TypeId} {r : Tmp} (h : y.op = .load T (.tmp r)) : r ∈ y.looksAt ops := by
 refine List.mem_append_left _ (List.mem_filterMap.2 ⟨.tmp r, ?_, rfl⟩)
 rw [h]; simp [Op.operands]
theorem up_back {up up' : Up} (hS : S.Wf) (h : DoesUp P ops x S u up) (hxy : ∀ d, x.dst = some d → d ∉ y.looksAt ops) (hne : ∀ d, x.dst = some d → y.dst ≠ some d) (hsel : ∀ cs q, y.op ≠ .select cs q)
  (hy : DoesUp P ops y (S.app x.dst up) u up') : DoesUp P ops y S u up' := by
 have hag : ∀ (a : Act) v, Agree (y.looksAt ops) (a.put x.dst v) a := fun a v => agree_put hxy
 have hf := free_back hne (up_free hy)
 cases up' with
 | drop =>
  refine ⟨hf, fun B a hr => ?_⟩
  obtain ⟨B1, v, h1, _⟩ := reg_fore hS h hr
  exact (zxv (hag a v) _).1 (hy.2 B1 _ h1)
 | set z =>
  refine ⟨hf, ?_⟩
  rcases hy.2 with ⟨h1, h2⟩ | ⟨T, r, s, off, V, agg, n, g1, g2, g3, g4, g5, g6⟩
  ·have h1' := from_back h hxy h1
   refine .inl ⟨h1', fun B a w u' hr he hd => ?_⟩
   obtain ⟨B1, v, k1, k2⟩ := reg_fore hS h hr
   obtain ⟨e1, e2⟩ := h2 B1 _ w u' k1 he hd
   rw [exec_agree hsel (hag a v)] at e2
   rw [SV.conc_congr (B' := B) (fun t ht => by obtain ⟨V, hV⟩ := h1'.wf hS t ht; exact k2 t V hV)] at e2
   exact ⟨(zxv (hag a v) _).1 e1, e2⟩
  ·have hr0 := load_looks (ops := ops) g1
   rw [zxw (fun e => hxy r e hr0)] at g2
   obtain ⟨V0, hV0⟩ := hS.reg r _ s g2 rfl
   have := up_var h hV0
   rw [g3] at this; injection this with this; subst this
   refine .inr ⟨T, r, s, off, V, agg, n, g1, g2, hV0, g4, g5, fun B a hr => ?_⟩
   obtain ⟨B1, v, k1, _⟩ := reg_fore hS h hr
   exact (zxv (hag a v) _).1 (g6 B1 _ k1)
 | new V =>
  obtain ⟨_, t, g1, g2, g4⟩ := hy
  refine ⟨hf, t, g1, by rw [← app_var_ne (fun e => hne t e g1)]; exact g2, fun B a w hr => ?_⟩
  obtain ⟨B1, v, k1, k2⟩ := reg_fore hS h hr
  obtain ⟨e1, e2⟩ := g4 B1 _ w k1
  rw [exec_agree hsel (hag a v)] at e2
  exact ⟨(zxv (hag a v) _).1 e1, e2⟩
 | lit V n =>
  obtain ⟨_, t, g1, g2, g4⟩ := hy
  refine ⟨hf, t, g1, by rw [← app_var_ne (fun e => hne t e g1)]; exact g2, fun B a w hr => ?_⟩
  obtain ⟨B1, v, k1, k2⟩ := reg_fore hS h hr
  obtain ⟨e1, e2⟩ := g4 B1 _ w k1
  rw [exec_agree hsel (hag a v)] at e2
  exact ⟨(zxv (hag a v) _).1 e1, e2⟩
end
section
variable {P : Program} {ops : Array Oper} {w0 : Base} {u0 : World} {S : St} {B : Tmp → Nat} {a : Act} {w u u' : World} {o x y : Oper}
theorem up_carry {T : St} {up : Up} (h : DoesUp P ops x S u up) (hsel : ∀ cs q, x.op ≠ .select cs q)
  (hreg : ∀ r ∈ x.looksAt ops, T.reg r = S.reg r) (hfree : Free x T) (hnew : ∀ t, x.dst = some t → S.var t = none → T.var t = none) (hvar : ∀ t r, x.op = .load t (.tmp r) → ∀ z s V, S.reg r = some z → z.at? = some s → S.var s = some V → T.var s = some V)
  (hback : ∀ B a, RegOK T B a → ∃ a', RegOK S B a' ∧ Agree (x.looksAt ops) a' a) : DoesUp P ops x T u up := by
 have hfrom : ∀ z, From ops x S z → From ops x T z := fun z hz t ht => by
  obtain ⟨r, hr, z', h1, h2⟩ := hz t ht
  exact ⟨r, hr, z', by rw [hreg r hr]; exact h1, h2⟩
 cases up with
 | drop =>
  refine ⟨hfree, fun B a hr => ?_⟩
  obtain ⟨a', h1, h2⟩ := hback B a hr
  exact (zxv h2 _).1 (h.2 B a' h1)
 | set z =>
  refine ⟨hfree, ?_⟩
  rcases h.2 with ⟨h1, h2⟩ | ⟨T', r, s, off, V, agg, n, g1, g2, g3, g4, g5, g6⟩
  ·refine .inl ⟨hfrom z h1, fun B a w u' hr he hd => ?_⟩
   obtain ⟨a', k1, k2⟩ := hback B a hr
   obtain ⟨e1, e2⟩ := h2 B a' w u' k1 he hd
   rw [exec_agree hsel k2] at e2
   exact ⟨(zxv k2 _).1 e1, e2⟩
  ·have hl := load_looks (ops := ops) g1
   refine .inr ⟨T', r, s, off, V, agg, n, g1, by rw [hreg r hl]; exact g2, hvar _ r g1 _ s V g2 rfl g3, g4, g5, fun B a hr => ?_⟩
   obtain ⟨a', k1, k2⟩ := hback B a hr
   exact (zxv k2 _).1 (g6 B a' k1)
 | new V =>
  obtain ⟨_, t, g1, g2, g4⟩ := h
  refine ⟨hfree, t, g1, hnew t g1 g2, fun B a w hr => ?_⟩
  obtain ⟨a', k1, k2⟩ := hback B a hr
  obtain ⟨e1, e2⟩ := g4 B a' w k1
  rw [exec_agree hsel k2] at e2
  exact ⟨(zxv k2 _).1 e1, e2⟩
 | lit V n =>
  obtain ⟨_, t, g1, g2, g4⟩ := h
  refine ⟨hfree, t, g1, hnew t g1 g2, fun B a w hr => ?_⟩
  obtain ⟨a', k1, k2⟩ := hback B a hr
  obtain ⟨e1, e2⟩ := g4 B a' w k1
  rw [exec_agree hsel k2] at e2
  exact ⟨(zxv k2 _).1 e1, e2⟩
theorem reg_mend {T : St} (ts : List Tmp) (hn : T.n = S.n) (h : ∀ t z, t ∉ ts → S.reg t = some z → T.reg t = some z) (hts : ∀ t ∈ ts, ∀ z, S.reg t = some z → t < S.n) (hr : RegOK T B a) :
  ∃ a', RegOK S B a' ∧ ∀ t, t ∉ ts → a'.tmps[t]? = a.tmps[t]? := by
 refine ⟨{ a with tmps := a.tmps.mapIdx fun t v => if t ∈ ts then (match S.reg t with | some z => z.conc B | none => v) else v }, ⟨fun t z hz => ?_, by simp; rw [hr.size, hn]⟩, fun t ht => ?_⟩
 ·simp only [Array.getElem?_mapIdx]
  by_cases e : t ∈ ts
  ·have hlt : t < a.tmps.size := by rw [hr.size, hn]; exact hts t e z hz
   rw [Array.getElem?_eq_getElem hlt]
   simp [e, hz]
  ·rw [hr.reg t z (h t z e hz)]
   simp [e]
 ·simp only [Array.getElem?_mapIdx, ht, if_false]
  cases a.tmps[t]? <;> rfl
theorem up_fore {up up' : Up} (h : DoesUp P ops x S u up) (hy : DoesUp P ops y S u up') (hyx : ∀ d, y.dst = some d → d ∉ x.looksAt ops) (hne : ∀ d, x.dst = some d → y.dst ≠ some d) (hsel : ∀ cs q, x.op ≠ .select cs q) : DoesUp P ops x (S.app y.dst up') u up := by
 have hfy := up_free hy
 refine up_carry h hsel (fun r hr => zxw (fun e => hyx r e hr)) (fun d hd => ?_) (fun t ht hv => ?_) (fun _ r hr z s V h1 h2 h3 => up_var hy h3) (fun B a hr => ?_)
 ·obtain ⟨h1, h2⟩ := up_free h d hd
  rw [app_n, zxw (hne d hd)]
  exact ⟨h1, h2⟩
 ·rw [app_var_ne (hne t ht)]; exact hv
 ·obtain ⟨a', h1, h2⟩ := reg_mend (S := S) y.dst.toList (app_n _ _) (fun t z ht hz => by rw [zxw (fun e => ht (by simp [e]))]; exact hz) (fun t ht z hz => (hfy t (by simpa using ht)).1) hr
  exact ⟨a', h1, fun t ht => h2 t (fun e => hyx t (by simpa using e) ht)⟩
theorem unpub_reg {pubs : List Tmp} {r : Tmp} (h : r ∉ pubs) : (S.unpub pubs).reg r = S.reg r := by
 simp only [St.unpub]
 have : pubs.contains r = false := by
  cases e : pubs.contains r with
  | true => exact absurd (List.contains_iff_mem.1 e) h
  | false => rfl
 rw [this]; rfl
theorem unpub_var {pubs : List Tmp} {r : Tmp} (h : r ∉ pubs) : (S.unpub pubs).var r = S.var r := by
 simp only [St.unpub]
 have : pubs.contains r = false := by
  cases e : pubs.contains r with
  | true => exact absurd (List.contains_iff_mem.1 e) h
  | false => rfl
 rw [this]; rfl
theorem put_reg_ne {d : Option Tmp} {z : Option SV} {r : Tmp} (h : d ≠ some r) : (S.put d z).reg r = S.reg r := by
 cases d with
 | none => rfl
 | some t => exact upd_ne _ _ (fun e => h (by rw [e]))
theorem up_foreV {up : Up} {v : Value} (h : DoesUp P ops x S u up) (hfy : Free y S) (hyx : ∀ d, y.dst = some d → d ∉ x.looksAt ops) (hne : ∀ d, x.dst = some d → y.dst ≠ some d) (hsel : ∀ cs q, x.op ≠ .select cs q) : DoesUp P ops x (S.put y.dst (some (.v v))) u up := by
 refine up_carry h hsel (fun r hr => put_reg_ne (fun e => hyx r e hr)) (fun d hd => ?_) (fun t ht hv => by rw [put_var]; exact hv) (fun _ r hr z s V h1 h2 h3 => by rw [put_var]; exact h3) (fun B a hr => ?_)
 ·obtain ⟨h1, h2⟩ := up_free h d hd
  rw [put_n, put_reg_ne (hne d hd)]
  exact ⟨h1, h2⟩
 ·obtain ⟨a', h1, h2⟩ := reg_mend (S := S) y.dst.toList (put_n _ _) (fun t z ht hz => by rw [put_reg_ne (fun e => ht (by simp [e]))]; exact hz) (fun t ht z hz => (hfy t (by simpa using ht)).1) hr
  exact ⟨a', h1, fun t ht => h2 t (fun e => hyx t (by simpa using e) ht)⟩
theorem up_call {up : Up} {pubs : List Tmp} {f : FuncId} {args : List SV} {v : Value} (h : DoesUp P ops x S u up) (hy : DoesCall P ops y S f args) (hp : PubOK S pubs) (hb : ∀ t ∈ pubs, t < S.n) (hyx : ∀ d, y.dst = some d → d ∉ x.looksAt ops) (hne : ∀ d, x.dst = some d → y.dst ≠ some d)
  (hpx : ∀ t ∈ pubs, t ∉ x.looksAt ops) (hdx : ∀ d, x.dst = some d → d ∉ pubs) (hsel : ∀ cs q, x.op ≠ .select cs q) : DoesUp P ops x ((S.unpub pubs).put y.dst (some (.v v))) u up := by
 refine up_carry h hsel (fun r hr => ?_) (fun d hd => ?_) (fun t ht hv => ?_) (fun _ r hr z s V h1 h2 h3 => ?_) (fun B a hr => ?_)
 ·rw [put_reg_ne (fun e => hyx r e hr), unpub_reg (fun e => hpx r e hr)]
 ·obtain ⟨h1, h2⟩ := up_free h d hd
  rw [put_n, put_reg_ne (hne d hd), unpub_reg (hdx d hd)]
  exact ⟨h1, h2⟩
 ·rw [put_var, unpub_var (hdx t ht)]; exact hv
 ·rw [put_var, unpub_var (fun e => hpx r (hp.reg r z s h1 h2 e) (load_looks hr))]; exact h3
 ·obtain ⟨a', h1, h2⟩ := reg_mend (S := S) (y.dst.toList ++ pubs) (by rw [put_n]; rfl) (fun t z ht hz => by
   simp only [List.mem_append, not_or] at ht
   rw [put_reg_ne (fun e => ht.1 (by simp [e])), unpub_reg ht.2]; exact hz) (fun t ht z hz => by
   rcases List.mem_append.1 ht with ht | ht
   ·exact (hy.1 t (by simpa using ht)).1
   ·exact hb t ht) hr
  refine ⟨a', h1, fun t ht => h2 t fun e => ?_⟩
  rcases List.mem_append.1 e with e | e
  ·exact hyx t (by simpa using e) ht
  ·exact hpx t e ht
theorem up_store {up : Up} {s : Tmp} {V V' : Vr} (h : DoesUp P ops x S u up) (hs : S.var s = some V) (hsel : ∀ cs q, x.op ≠ .select cs q)
  (hl : ∀ t r, x.op = .load t (.tmp r) → ∀ s' off, S.reg r = some (.adr s' off) → s' ≠ s) : DoesUp P ops x (S.setVar s V') u up := by
 cases up with
 | set z =>
  refine ⟨h.1, ?_⟩
  rcases h.2 with h1 | ⟨T', r, s', off, V1, agg, n, g1, g2, g3, g4, g5, g6⟩
  ·exact .inl ⟨h1.1, fun B a w u' hr => h1.2 B a w u' ⟨hr.reg, hr.size⟩⟩
  ·refine .inr ⟨T', r, s', off, V1, agg, n, g1, g2, ?_, g4, g5, fun B a hr => g6 B a ⟨hr.reg, hr.size⟩⟩
   show upd S.var s (some V') s' = some V1
   rw [upd_ne _ _ (hl _ r g1 s' off g2)]; exact g3
 | drop => exact ⟨h.1, fun B a hr => h.2 B a ⟨hr.reg, hr.size⟩⟩
 | new V1 =>
  obtain ⟨hf, t, g1, g2, g4⟩ := h
  refine ⟨hf, t, g1, ?_, fun B a w hr => g4 B a w ⟨hr.reg, hr.size⟩⟩
  show upd S.var s (some V') t = none
  rw [upd_ne _ _ (fun e => by rw [e, hs] at g2; cases g2)]; exact g2
 | lit V1 n =>
  obtain ⟨hf, t, g1, g2, g4⟩ := h
  refine ⟨hf, t, g1, ?_, fun B a w hr => g4 B a w ⟨hr.reg, hr.size⟩⟩
  show upd S.var s (some V') t = none
  rw [upd_ne _ _ (fun e => by rw [e, hs] at g2; cases g2)]; exact g2
theorem st_ext {S T : St} (h1 : S.n = T.n) (h2 : S.reg = T.reg) (h3 : S.var = T.var) : S = T := by
 cases S; cases T; cases h1; cases h2; cases h3; rfl
theorem app_comm {d e : Option Tmp} {up up' : Up} (h : ∀ t, d = some t → e ≠ some t) : (S.app d up).app e up' = (S.app e up').app d up := by
 cases d with
 | none => cases up <;> rfl
 | some t =>
  cases e with
  | none => cases up' <;> rfl
  | some s =>
   have hne : s ≠ t := fun k => h t rfl (by rw [k])
   cases up <;> cases up' <;> simp only [St.app, St.put] <;> exact st_ext rfl (upd_comm _ _ _ hne) (by first | rfl | exact upd_comm _ _ _ hne)
theorem setVar_comm {d : Option Tmp} {up : Up} {s : Tmp} {V V' : Vr} (hs : S.var s = some V) (h : DoesUp P ops x S u up) (hd : x.dst = d) : (S.app d up).setVar s V' = (S.setVar s V').app d up := by
 cases d with
 | none => cases up <;> rfl
 | some t =>
  cases up with
  | set z => rfl
  | drop => rfl
  | new V1 =>
   obtain ⟨_, t', g1, g2, _⟩ := h
   rw [hd] at g1; injection g1 with g1; subst g1
   exact st_ext rfl rfl (upd_comm _ _ _ (fun e => by rw [e, g2] at hs; cases hs))
  | lit V1 n =>
   obtain ⟨_, t', g1, g2, _⟩ := h
   rw [hd] at g1; injection g1 with g1; subst g1
   exact st_ext rfl rfl (upd_comm _ _ _ (fun e => by rw [e, g2] at hs; cases hs))
theorem unpub_comm {d e : Option Tmp} {up : Up} {pubs : List Tmp} {z : SV} (h : ∀ t, d = some t → e ≠ some t) (hp : ∀ t, d = some t → t ∉ pubs) :
  ((S.app d up).unpub pubs).put e (some z) = ((S.unpub pubs).put e (some z)).app d up := by
 have h1 : (S.app d up).unpub pubs = (S.unpub pubs).app d up := by
  cases d with
  | none => cases up <;> rfl
  | some t =>
   have hc : pubs.contains t = false := by
    cases e : pubs.contains t with
    | true => exact absurd (List.contains_iff_mem.1 e) (hp t rfl)
    | false => rfl
   have key : ∀ {α : Type} (g : Tmp → Option α) (y : Option α), (fun r => bif pubs.contains r then none else upd g t y r) = upd (fun r => bif pubs.contains r then none else g r) t y := fun g y => by
    funext r
    by_cases k : r = t
    ·subst k; rw [hc, zxb, zxb]; rfl
    ·rw [upd_ne _ _ k, upd_ne _ _ k]
   cases up <;> simp only [St.app, St.put, St.unpub] <;> exact st_ext rfl (key _ _) (by first | rfl | exact key _ _)
 rw [h1]
 exact app_comm (up' := .set z) h
end
def swapOk (ops : Array Oper) (x y : Oper × List Tmp) : Bool :=
 opK x.1.op == 0 && x.2.isEmpty && x.1.apart ops y.1 &&
  (bif isStore y.1.op then (match x.1.op with | .load _ (.tmp r) => y.2.contains r && !(x.1.dst == some r) | .load .. => false | _ => true)
   else opK y.1.op != 2 && (match x.1.dst with | some d => !y.2.contains d | none => true) && y.2.all (fun t => !(x.1.looksAt ops).contains t))
section
variable {P : Program} {ops : Array Oper} {w0 : Base} {u0 : World} {S : St} {B : Tmp → Nat} {a : Act} {w u u' : World}
theorem notSelect {o : Op} (h : opK o ≠ 2) : ∀ cs q, o ≠ .select cs q := by rintro cs q rfl; exact h rfl
theorem swap1 {x y : Oper × List Tmp} {up : Up} {k : St → World → Prop} (hS : S.Wf) (hok : swapOk ops x y = true) (hk : Mono k) (hx : DoesUp P ops x.1 S u up) (h : one P ops w0 u0 false y (S.app x.1.dst up) u k) :
  one P ops w0 u0 false y S u (fun S1 u1 => one P ops w0 u0 false x S1 u1 k) := by
 simp only [swapOk, Bool.and_eq_true, beq_iff_eq] at hok
 obtain ⟨⟨⟨hx0, _⟩, hap⟩, hok⟩ := hok
 obtain ⟨hxy, hne, hyx⟩ := Oper.apart_spec hap
 have hsx := notSelect (o := x.1.op) (by rw [hx0]; decide)
 cases hst : isStore y.1.op with
 | true =>
  rw [hst] at hok
  have hk2 : opK y.1.op = 2 := by
   cases hy : y.1.op <;> simp [hy, isStore] at hst
   rfl
  rcases h with ⟨h0, up', h1, h2⟩ | ⟨h0, _⟩ | ⟨h0, _⟩ | ⟨s, V', h1, h2⟩ | ⟨_, _, h0, _⟩
  ·exact absurd hk2 h0
  ·rw [hk2] at h0; cases h0
  ·rcases h0 with h0 | h0
   ·cases h0
   ·rw [hst] at h0; cases h0.2
  ·obtain ⟨T, r, z, off, V, v, agg, n, hop, hd, hreg, hv, hz, hT, hn, hone, hl, hV, hw, hnl⟩ := h1
   have hrl : r ∈ y.1.looksAt ops := List.mem_append_left _ (List.mem_filterMap.2 ⟨.tmp r, by rw [hop]; simp [Op.operands], rfl⟩)
   have hreg' : S.reg r = some (.adr s off) := by rw [← zxw (fun e => hxy r e hrl)]; exact hreg
   obtain ⟨V0, hV0⟩ := hS.reg r _ s hreg' rfl
   have := up_var hx hV0
   rw [hv] at this; injection this with this; subst this
   have hag : ∀ (a : Act) v, Agree (y.1.looksAt ops) (a.put x.1.dst v) a := fun a v => agree_put hxy
   have hzl : z ∈ y.1.op.operands := by rw [hop]; simp [Op.operands]
   have hld : ∀ t r', x.1.op = .load t (.tmp r') → ∀ s' off', S.reg r' = some (.adr s' off') → s' ≠ s := fun t r' he s' off' hr' => by
    rw [he] at hok
    simp only [cond_true, Bool.and_eq_true, Bool.not_eq_true', beq_eq_false_iff_ne] at hok
    exact hnl r' (List.contains_iff_mem.1 hok.1) s' off' (by rw [zxw hok.2]; exact hr')
   have hds : DoesStore P ops y.1 S [] s V' := by
    refine ⟨T, r, z, off, V, v, agg, n, hop, hd, hreg', hV0, fun B a hr => ?_, hT, hn, hone, hl, hV, fun B a hr => ?_, fun r' h => by cases h⟩
    ·obtain ⟨B1, v1, k1, _⟩ := reg_fore hS hx hr
     rw [← hz B1 _ k1]
     exact (eval_agree (hag a v1) z hzl).symm
    ·obtain ⟨B1, v1, k1, _⟩ := reg_fore hS hx hr
     exact (zxv (hag a v1) _).1 (hw B1 _ k1)
   have hds2 : DoesStore P ops y.1 S y.2 s V' := by
    obtain ⟨T, r, z, off, V, v, agg, n, k1, k2, k3, k4, k5, k6, k7, k8, k9, k10, k11, _⟩ := hds
    refine ⟨T, r, z, off, V, v, agg, n, k1, k2, k3, k4, k5, k6, k7, k8, k9, k10, k11, fun r' hr' t off' ht => ?_⟩
    by_cases e : x.1.dst = some r'
    ·have := (up_free hx r' e).2
     rw [ht] at this; cases this
    ·exact hnl r' hr' t off' (by rw [zxw e]; exact ht)
   refine .inr (.inr (.inr (.inl ⟨s, V', hds2, .inl ⟨by rw [hx0]; decide, up, up_store hx hV0 hsx hld, ?_⟩⟩)))
   rw [← setVar_comm hV0 hx rfl]
   exact h2
  ·exact absurd hk2 h0
 | false =>
 rw [hst] at hok
 simp only [cond_false, Bool.and_eq_true, bne_iff_ne] at hok
 obtain ⟨⟨hy2, hdp⟩, hlp⟩ := hok
 have hdx : ∀ d, x.1.dst = some d → d ∉ y.2 := fun d hd hm => by rw [hd] at hdp; simp [hm] at hdp
 have hpx : ∀ t ∈ y.2, t ∉ x.1.looksAt ops := fun t ht hm => by
  have := List.all_eq_true.1 hlp t ht
  simp [hm] at this
 have hsy := notSelect hy2
 rcases h with ⟨h0, up', h1, h2⟩ | ⟨h0, f, args, pubs, hpp, h1, h2, h3⟩ | ⟨h0, _⟩ | ⟨s, V', h1, _⟩ | ⟨_, hp2, hk2, V, n, h1, h2⟩
 ·have hy := up_back hS hx hxy hne hsy h1
  refine .inl ⟨h0, up', hy, .inl ⟨by rw [hx0]; decide, up, up_fore hx hy hyx hne hsx, ?_⟩⟩
  rw [app_comm (S := S) (d := y.1.dst) (e := x.1.dst) (fun t ht e => hne t e ht)]
  exact h2
 ·obtain rfl := hpp rfl
  obtain ⟨c1, c3, c2⟩ := h1
  have hag : ∀ (a : Act) v, Agree (y.1.looksAt ops) (a.put x.1.dst v) a := fun a v => agree_put hxy
  have c3' : ∀ z ∈ args, From ops y.1 S z := fun z hz => from_back hx hxy (c3 z hz)
  have hy : DoesCall P ops y.1 S f args := ⟨free_back hne c1, c3', fun B a w hr => by
   obtain ⟨B1, v, k1, k2⟩ := reg_fore hS hx hr
   obtain ⟨e1, e2⟩ := c2 B1 _ w k1
   rw [exec_agree hsy (hag a v)] at e2
   rw [List.map_congr_left (g := SV.conc B) (fun z hz => SV.conc_congr fun t ht => by obtain ⟨V', hV'⟩ := (c3' z hz).wf hS t ht; exact k2 t V' hV')] at e2
   exact ⟨(zxv (hag a v) _).1 e1, e2⟩⟩
  have hpS : PubOK S y.2 := by
   refine ⟨fun t ht => by have := h2.lt t ht; rw [app_n] at this; exact this, fun r z t hr hz ht => ?_⟩
   ·by_cases e : x.1.dst = some r
    ·have := (up_free hx r e).2
     rw [hr] at this
     simp [hz] at this
    ·exact h2.reg r z t (by rw [zxw e]; exact hr) hz ht
  refine .inr (.inl ⟨h0, f, args, y.2, fun _ => rfl, hy, hpS, fun B w u1 e1 d1 v1 => ?_⟩)
  refine Post.mono (h3 B w u1 e1 d1 (fun t ht V hV => v1 t ht V (by rw [← app_var_ne (fun e => hdx t e ht)]; exact hV))) fun v u2 g2 hk2 => ?_
  refine .inl ⟨by rw [hx0]; decide, up, (up_call hx hy hpS hpS.lt hyx hne hpx hdx hsx).mono (e1.trans g2.ext), ?_⟩
  rw [← unpub_comm hne hdx]
  exact hk2
 ·rcases h0 with h0 | h0
  ·cases h0
  ·exact absurd h0.1 hy2
 ·obtain ⟨T, r, z, off, V, v, agg, n, hop, _⟩ := h1
  rw [hop] at hst; cases hst
 ·have hy := up_back hS hx hxy hne hsy h1
  refine .inr (.inr (.inr (.inr ⟨rfl, hp2, hk2, V, n, hy, fun b u1 e1 b1 b2 b3 => .inl ⟨by rw [hx0]; decide, up, (up_foreV hx (up_free hy) hyx hne hsx).mono e1, ?_⟩⟩)))
  show k ((S.app y.1.dst (.set (.v (.slice (some ⟨b, 0, none⟩) n n)))).app x.1.dst up) u1
  rw [app_comm (S := S) (d := y.1.dst) (e := x.1.dst) (fun t ht e => hne t e ht)]
  exact h2 b u1 e1 b1 b2 b3
theorem bubble {K : St → World → Prop} (hK : Mono K) {y : Oper × List Tmp} {post : List (Oper × List Tmp)} : ∀ (pre : List (Oper × List Tmp)) (S : St) (u : World), S.Wf → (∀ x ∈ pre, swapOk ops x y = true) →
  sym P ops w0 u0 false (pre ++ y :: post) S u K → one P ops w0 u0 false y S u (fun S' u' => sym P ops w0 u0 false (pre ++ post) S' u' K)
 | [], S, u, hS, hok, h => h
 | x :: pre, S, u, hS, hok, h => by
  have hx := hok x (List.mem_cons_self ..)
  have hx0 : opK x.1.op = 0 := by
   simp only [swapOk, Bool.and_eq_true, beq_iff_eq] at hx
   exact hx.1.1.1
  have hx2 : x.2 = [] := by
   simp only [swapOk, Bool.and_eq_true, List.isEmpty_iff] at hx
   exact hx.1.1.2
  rcases h with ⟨h0, up, h1, h2⟩ | ⟨h0, _⟩ | ⟨h0, _⟩ | ⟨s, V', h1, _⟩ | ⟨_, hp2, _⟩
  ·exact swap1 hS hx (zxy hK) h1 (bubble hK pre _ u (wf_app hS h1) (fun x hx => hok x (List.mem_cons_of_mem _ hx)) h2)
  ·rw [hx0] at h0; cases h0
  ·rcases h0 with h0 | h0
   ·cases h0
   ·rw [hx0] at h0; cases h0.1
  ·obtain ⟨T, r, z, off, V, v, agg, n, hop, _⟩ := h1
   rw [hop] at hx0; cases hx0
  ·exact absurd hx2 hp2
def reachOf (M : List Nat) (o : Oper) : Nat := o.after.toList.foldl (fun s e => if Region.binds .any e then s ||| (2 ^ e.on ||| M.getD e.on 0) else s) 0
def pairOk (ops : Array Oper) (M : List Nat) (x y : Nat × List Tmp) : Bool :=
 ((M.getD y.1 0).testBit x.1 || swapOk ops (ops.getD x.1 default, x.2) (ops.getD y.1 default, y.2)) && !((ops.getD x.1 default).after.toList.any fun e => Region.binds .any e && e.on == y.1)
def pairsOk (ops : Array Oper) (M : List Nat) : List (Nat × List Tmp) → Bool
 | [] => true
 | x :: l => l.all (pairOk ops M x) && pairsOk ops M l
def nodupB : List Nat → Bool
 | [] => true
 | x :: l => !l.contains x && nodupB l
def regOk (ops : Array Oper) (M : List Nat) (q : List (Nat × List Tmp)) : Bool :=
 q.length == ops.size && nodupB (q.map (·.1)) && (List.range ops.size).all (fun i => (q.map (·.1)).contains i) && q.all (fun x => x.1 < ops.size && !((ops.getD x.1 default).after.toList.any fun e => Region.binds .any e && (e.on == x.1 || ops.size ≤ e.on)) && (M.getD x.1 0 == reachOf M (ops.getD x.1 default))) && pairsOk ops M q
theorem foldl_bit (M : List Nat) (x : Nat) : ∀ (l : List Edge) (s : Nat), (l.foldl (fun s e => if Region.binds .any e then s ||| (2 ^ e.on ||| M.getD e.on 0) else s) s).testBit x = true → s.testBit x = true ∨ ∃ e ∈ l, Region.binds .any e = true ∧ (e.on = x ∨ (M.getD e.on 0).testBit x = true)
 | [], s, h => .inl h
 | e :: l, s, h => by
  rcases foldl_bit M x l _ h with h1 | ⟨e', h1, h2⟩
  ·dsimp only at h1
   split at h1
   ·rename_i hb
    rw [Nat.testBit_or, Nat.testBit_or, Nat.testBit_two_pow] at h1
    simp only [Bool.or_eq_true, decide_eq_true_eq] at h1
    rcases h1 with h1 | h1 | h1
    ·exact .inl h1
    ·exact .inr ⟨e, List.mem_cons_self .., hb, .inl h1⟩
    ·exact .inr ⟨e, List.mem_cons_self .., hb, .inr h1⟩
   ·exact .inl h1
  ·exact .inr ⟨e', List.mem_cons_of_mem _ h1, h2⟩
theorem nodupB_spec : ∀ {l : List Nat}, nodupB l = true → l.Nodup
 | [], _ => List.nodup_nil
 | x :: l, h => by
  simp only [nodupB, Bool.and_eq_true, Bool.not_eq_true'] at h
  exact List.nodup_cons.2 ⟨(fun hm => by rw [List.contains_iff_mem.2 hm] at h; exact absurd h.1 (by simp)), nodupB_spec h.2⟩
theorem pairsOk_spec {M : List Nat} : ∀ {l : List (Nat × List Tmp)}, pairsOk ops M l = true → l.Pairwise (fun x y => pairOk ops M x y = true)
 | [], _ => List.Pairwise.nil
 | x :: l, h => by
  simp only [pairsOk, Bool.and_eq_true] at h
  exact List.Pairwise.cons (fun y hy => List.all_eq_true.1 h.1 y hy) (pairsOk_spec h.2)
def opAt (ops : Array Oper) (x : Nat × List Tmp) : Oper × List Tmp := (ops.getD x.1 default, x.2)
structure Left (ops : Array Oper) (M : List Nat) (L : List (Nat × List Tmp)) (listed : Array Bool) : Prop where
 nodup : (L.map (·.1)).Nodup
 pair : L.Pairwise (fun x y => pairOk ops M x y = true)
 size : listed.size = ops.size
 mem : ∀ i, i < ops.size → (listed.getD i true = false ↔ i ∈ L.map (·.1))
 lt : ∀ x ∈ L, x.1 < ops.size ∧ ∀ e ∈ (ops.getD x.1 default).after, Region.binds .any e = true → e.on ≠ x.1 ∧ e.on < ops.size
 mask : ∀ x ∈ L, M.getD x.1 0 = reachOf M (ops.getD x.1 default)
 closed : ∀ j, j < ops.size → j ∉ L.map (·.1) → ∀ x, (M.getD j 0).testBit x = true → x ∉ L.map (·.1)
theorem get_op {i : Nat} (h : i < ops.size) : ops[i]? = some (ops.getD i default) := by
 rw [Array.getElem?_eq_getElem h]; simp [h]
theorem listed_iff {listed : Array Bool} {i : Nat} (h : i < listed.size) : listed.getD i false = true ↔ ¬ listed.getD i true = false := by
 simp [h]
theorem Left.ready_mem {M : List Nat} {L : List (Nat × List Tmp)} {listed : Array Bool} (h : Left ops M L listed) {i : Nat} (hi : i ∈ Region.ready .any ops listed) : i < ops.size ∧ i ∈ L.map (·.1) ∧ ∀ e ∈ (ops.getD i default).after, Region.binds .any e = true → e.on ∉ L.map (·.1) := by
 obtain ⟨h0, o, ho, hall⟩ := mem_ready.1 hi
 have hlt : i < ops.size := (Array.getElem?_eq_some_iff.1 ho).1
 have hm := (h.mem i hlt).1 h0
 refine ⟨hlt, hm, fun e he hb => ?_⟩
 rw [get_op hlt] at ho
 injection ho with ho
 obtain ⟨x, hx, hxi⟩ := List.mem_map.1 hm
 have hl := ((h.lt x hx).2 e (by rw [hxi]; exact he) hb).2
 have := hall e (by rw [← ho]; exact he) hb
 rw [listed_iff (by rw [h.size]; exact hl), h.mem e.on hl] at this
 exact this
theorem Left.head_ready {M : List Nat} {x : Nat × List Tmp} {L : List (Nat × List Tmp)} {listed : Array Bool} (h : Left ops M (x :: L) listed) : x.1 ∈ Region.ready .any ops listed := by
 obtain ⟨h1, h2⟩ := h.lt x (List.mem_cons_self ..)
 refine mem_ready.2 ⟨(h.mem x.1 h1).2 (by simp), _, get_op h1, fun e he hb => ?_⟩
 obtain ⟨h3, h4⟩ := h2 e he hb
 rw [listed_iff (by rw [h.size]; exact h4), h.mem e.on h4]
 intro hm
 obtain ⟨y, hy, hye⟩ := List.mem_map.1 hm
 rcases List.mem_cons.1 hy with rfl | hy
 ·exact h3 hye.symm
 ·have := (List.pairwise_cons.1 h.pair).1 y hy
  simp only [pairOk, Bool.and_eq_true, Bool.not_eq_true'] at this
  have h5 : ((ops.getD x.1 default).after.toList.any fun e => Region.binds .any e && e.on == y.1) = true := List.any_eq_true.2 ⟨e, by simpa using he, by simp [hb, hye]⟩
  rw [h5] at this
  exact absurd this.2 (by simp)
theorem reach_out {M : List Nat} {L : List (Nat × List Tmp)} {listed : Array Bool} (h : Left ops M L listed) {x : Nat × List Tmp} (hx : x ∈ L) (hout : ∀ e ∈ (ops.getD x.1 default).after, Region.binds .any e = true → e.on ∉ L.map (·.1)) :
  ∀ j, (M.getD x.1 0).testBit j = true → j ∉ L.map (·.1) := by
 intro j hj
 rw [h.mask x hx] at hj
 rcases foldl_bit M j _ _ hj with h0 | ⟨e, he, hb, h1⟩
 ·simp at h0
 ·have he' : e ∈ (ops.getD x.1 default).after := by simpa using he
  have hn := hout e he' hb
  rcases h1 with rfl | h1
  ·exact hn
  ·exact h.closed e.on ((h.lt x hx).2 e he' hb).2 hn j h1
theorem any_sym {M : List Nat} {K : St → World → Prop} {Q : Exit → Act → World → Prop} (hK : Mono K) (hQ : ∀ S u, K S u → ∀ B a w, Rep w0 u0 S B a w u → Q .normal a w) :
  ∀ (fuel : Nat) (L : List (Nat × List Tmp)) (listed : Array Bool) (S : St) (B : Tmp → Nat) (a : Act) (w u : World), L.length = fuel → Left ops M L listed → Rep w0 u0 S B a w u →
   sym P ops w0 u0 false (L.map (opAt ops)) S u K → wpAny P .any ops Q fuel listed a w := by
 intro fuel
 induction fuel with
 | zero =>
  intro L listed S B a w u hl hL hr hs
  obtain rfl := List.length_eq_zero_iff.1 hl
  refine ⟨?_, hQ S u hs B a w hr⟩
  cases e : Region.ready .any ops listed with
  | nil => rfl
  | cons i l =>
   have := (hL.ready_mem (i := i) (by rw [e]; exact List.mem_cons_self ..)).2.1
   simp at this
 | succ fuel ih =>
  intro L listed S B a w u hl hL hr hs
  refine ⟨fun e => ?_, fun i hi => ?_⟩
  ·cases L with
   | nil => cases hl
   | cons x L =>
    have := hL.head_ready
    rw [e] at this
    cases this
  ·obtain ⟨hlt, hm, hout⟩ := hL.ready_mem hi
   obtain ⟨y, hy, rfl⟩ := List.mem_map.1 hm
   obtain ⟨pre, post, rfl⟩ := List.append_of_mem hy
   have hro := reach_out hL hy hout
   have hsw : ∀ x ∈ pre.map (opAt ops), swapOk ops x (opAt ops y) = true := by
    intro x hx
    obtain ⟨x', hx', rfl⟩ := List.mem_map.1 hx
    have := (List.pairwise_append.1 hL.pair).2.2 x' hx' y (List.mem_cons_self ..)
    simp only [pairOk, Bool.and_eq_true, Bool.or_eq_true] at this
    rcases this.1 with h1 | h1
    ·exact absurd (List.mem_map.2 ⟨x', by simp [hx'], rfl⟩) (hro x'.1 h1)
    ·exact h1
   rw [List.map_append, List.map_cons] at hs
   have hone := bubble hK (pre.map (opAt ops)) S u hr.wf hsw hs
   have hsound := one_sound (Q := Q) (zxy hK) hone (Ext.refl _) hr
   have hL' : Left ops M (pre ++ post) (listed.setIfInBounds y.1 true) := by
    have hsub : (pre ++ post).Sublist (pre ++ y :: post) := List.Sublist.append_left (List.sublist_cons_self _ _) _
    have hyn : y.1 ∉ (pre ++ post).map (·.1) := by
     have := hL.nodup
     rw [List.map_append, List.map_cons] at this
     have h2 := List.nodup_append.1 this
     have h3 := (List.nodup_cons.1 h2.2.1).1
     intro hm
     rw [List.map_append] at hm
     rcases List.mem_append.1 hm with hm | hm
     ·exact h2.2.2 y.1 hm y.1 (List.mem_cons_self ..) rfl
     ·exact h3 hm
    have hmem : ∀ j, j ≠ y.1 → (j ∈ (pre ++ post).map (·.1) ↔ j ∈ (pre ++ y :: post).map (·.1)) := fun j hj => by simp [hj]
    refine ⟨hL.nodup.sublist (hsub.map _), hL.pair.sublist hsub, by simp [hL.size], fun j hj => ?_, fun x hx => hL.lt x (hsub.mem hx), fun x hx => hL.mask x (hsub.mem hx), fun j hj hjn x hx => ?_⟩
    ·by_cases e : j = y.1
     ·subst e
      constructor
      ·intro h
       simp [hL.size, hj] at h
      ·intro h; exact absurd h hyn
     ·rw [getD_set_ne true (Ne.symm e), hmem j e]
      exact hL.mem j hj
    ·intro hmx
     by_cases e : j = y.1
     ·subst e; exact hro x hx ((hsub.map _).mem hmx)
     ·exact hL.closed j hj (fun h => hjn ((hmem j e).2 h)) x hx ((hsub.map _).mem hmx)
   have hfin : ∀ a' w', (∃ S' B' u'', Rep w0 u0 S' B' a' w' u'' ∧ (false = false → Ext u u'') ∧ sym P ops w0 u0 false (pre.map (opAt ops) ++ post.map (opAt ops)) S' u'' K) → wpAny P .any ops Q fuel (listed.setIfInBounds y.1 true) a' w' := by
    rintro a' w' ⟨S', B', u'', g1, _, g3⟩
    refine ih (pre ++ post) _ S' B' a' w' u'' (by simp at hl ⊢; omega) hL' g1 ?_
    rw [List.map_append]; exact g3
   have key : ops[y.1]? = some (opAt ops y).1 := get_op hlt
   simp only [wpOp, key]
   split
   ·rename_i hw
    rw [if_pos hw] at hsound
    exact .inl (Oper.wp_mono hfin hsound)
   ·rename_i hw
    rw [if_neg hw] at hsound
    exact hfin _ _ hsound
theorem Rep.drew (h : Rep w0 u0 S B a w u) : Rep w0 u0 S B a { w with drawn := w.drawn + 1 } u :=
 ⟨h.regs, h.wf, h.defers, h.var, h.inj, ⟨h.dat.size, h.dat.vis⟩, h.base, h.grow, ⟨h.bel.os, h.bel.tape, h.bel.output, h.bel.size, h.bel.block⟩⟩
theorem region_any {id : Nat} {M : List Nat} {q : List (Nat × List Tmp)} {K : St → World → Prop} {Q : Exit → Act → World → Prop} (hm : P.follows .mixedOrders = true) (hok : regOk ops M q = true) (hK : Mono K)
  (hQ : ∀ S u, K S u → ∀ B a w, Rep w0 u0 S B a w u → Q .normal a w) (hr : Rep w0 u0 S B a w u) (h : sym P ops w0 u0 false (q.map (opAt ops)) S u K) : (Code.region id ops true).wp P Q a w := by
 simp only [regOk, Bool.and_eq_true, beq_iff_eq, List.all_eq_true] at hok
 obtain ⟨⟨⟨⟨h1, h2⟩, h5⟩, h3⟩, h4⟩ := hok
 have hnd := nodupB_spec h2
 have hall : ∀ i, i < ops.size → i ∈ q.map (·.1) := fun i hi => List.contains_iff_mem.1 (h5 i (by simpa using hi))
 refine wp_region_any hm (any_sym hK hQ ops.size q _ S B a _ u h1 ⟨hnd, pairsOk_spec h4, by simp, fun i hi => ?_, fun x hx => ?_, fun x hx => (h3 x hx).2, fun j hj hjn => absurd (hall j hj) hjn⟩ hr.drew h)
 ·simp only [Array.getD_eq_getD_getElem?]
  rw [Array.getElem?_eq_getElem (by simpa using hi)]
  simp only [Array.getElem_replicate, Option.getD_some, true_iff]
  exact hall i hi
 ·obtain ⟨⟨g1, g2⟩, g3⟩ := h3 x hx
  refine ⟨by simpa using g1, fun e he hb => ?_⟩
  simp only [Bool.not_eq_true', List.any_eq_false] at g2
  have := g2 e (by simpa using he)
  simp [hb] at this
  exact this
theorem region_seq {id : Nat} {K : St → World → Prop} {Q : Exit → Act → World → Prop} (hK : Mono K) (hQ : ∀ S u, K S u → ∀ B a w, Rep w0 u0 S B a w u → Q .normal a w) (hr : Rep w0 u0 S B a w u)
  (h : sym P ops w0 u0 true (ops.toList.map fun o => (o, [])) S u K) : (Code.region id ops false).wp P Q a w := by
 refine wp_region_list ?_
 have key : ∀ (l : List Oper) (S : St) (B : Tmp → Nat) (a : Act) (w u : World), Rep w0 u0 S B a w u → sym P ops w0 u0 true (l.map fun o => (o, [])) S u K → wpList P ops Q l a w := by
  intro l
  induction l with
  | nil => intro S B a w u hr h; exact hQ S u h B a w hr
  | cons o l ih =>
   intro S B a w u hr h
   have hs := one_sound (Q := Q) (zxy hK) h (Ext.refl _) hr
   refine wpList_step fun K' hK' => ?_
   have hfin : ∀ a' w', (∃ S' B' u'', Rep w0 u0 S' B' a' w' u'' ∧ (true = false → Ext u u'') ∧ sym P ops w0 u0 true (l.map fun o => (o, [])) S' u'' K) → K' a' w' := by
    rintro a' w' ⟨S', B', u'', g1, _, g3⟩
    exact hK' _ _ (ih S' B' a' w' u'' g1 g3)
   show if Region.wanted o (yielded ops a.tmps) = true then _ else _
   split
   ·rename_i hw
    rw [if_pos hw] at hs
    exact Oper.wp_mono hfin hs
   ·rename_i hw
    rw [if_neg hw] at hs
    exact hfin _ _ hs
 exact key ops.toList S B a w u hr h
end
structure MP where
 f : Exit → St → World → Prop
 mono : ∀ e, Mono (f e)
section
variable (P : Program) (w0 : Base) (u0 : World)
def SW (c : Code) (S : St) (u : World) (Q : MP) : Prop :=
 ∀ B a w u', Ext u u' → Rep w0 u0 S B a w u' → c.wp P (fun e a' w' => ∃ S' B' u'', Rep w0 u0 S' B' a' w' u'' ∧ Q.f e S' u'') a w
theorem SW.mono (c : Code) (Q : MP) : Mono (fun S u => SW P w0 u0 c S u Q) := fun S u u' e h B a w u'' e' hr => h B a w u'' (e.trans e') hr
def MP.seq (c : Code) (Q : MP) : MP where
 f e S u := match e with | .normal => SW P w0 u0 c S u Q | e => Q.f e S u
 mono e := by cases e <;> first | exact SW.mono P w0 u0 c Q | exact Q.mono _
def MP.block (id : Nat) (Q : MP) : MP where
 f e S u := match e with | .exit id' => bif Nat.beq id' id then Q.f .normal S u else Q.f (.exit id') S u | e => Q.f e S u
 mono e := by
  cases e <;> first | exact Q.mono _ | skip
  rename_i id'
  cases h : Nat.beq id' id <;> simp only [h, cond_true, cond_false] <;> exact Q.mono _
structure Weak (S T : St) : Prop where
 n : T.n = S.n
 reg : ∀ t x, T.reg t = some x → S.reg t = some x
 var : ∀ t V, T.var t = some V → S.var t = some V
 wf : T.Wf
def MP.loop (I : Nat → St → World → Prop) (n : Nat) (Q : MP) (hI : ∀ m, Mono (I m)) : MP where
 f e S u := match e with | .normal => ∃ m, m < n ∧ ∃ T, Weak S T ∧ I m T u | e => Q.f e S u
 mono e := by
  cases e <;> first | exact Q.mono _ | skip
  rintro S u u' he ⟨m, hm, T, h1, h2⟩
  exact ⟨m, hm, T, h1, hI m T u u' he h2⟩
end
section
variable {P : Program} {w0 : Base} {u0 : World} {S T : St} {B : Tmp → Nat} {a : Act} {w u u' : World} {Q : MP} {c d : Code}
theorem Rep.weak (h : Rep w0 u0 S B a w u) (k : Weak S T) : Rep w0 u0 T B a w u :=
 ⟨⟨fun t x hx => h.regs.reg t x (k.reg t x hx), by rw [k.n]; exact h.regs.size⟩, k.wf, h.defers, fun t V hV => by rw [k.n]; exact h.var t V (k.var t V hV), fun t t' V V' h1 h2 e => h.inj t t' V V' (k.var t V h1) (k.var t' V' h2) e, h.dat, h.base, h.grow, h.bel⟩
theorem sw_weak (k : Weak S T) (h : SW P w0 u0 c T u Q) : SW P w0 u0 c S u Q := fun B a w u' e hr => h B a w u' e (hr.weak k)
theorem zzd (h : SW P w0 u0 c S u (MP.seq P w0 u0 d Q)) : SW P w0 u0 (.seq c d) S u Q := by
 intro B a w u' e hr
 refine wp_seq (wp_mono (h B a w u' e hr) fun ex a' w' ⟨S', B', u'', h1, h3⟩ => ?_)
 cases ex with
 | normal => exact h3 B' a' w' u'' (Ext.refl _) h1
 | _ => exact ⟨S', B', u'', h1, h3⟩
theorem zzs (h : Q.f .normal S u) : SW P w0 u0 .skip S u Q := fun B a w u' e hr => wp_skip ⟨S, B, u', hr, Q.mono _ _ _ _ e h⟩
theorem zzo (h : Q.f .ret S u) : SW P w0 u0 .ret S u Q := fun B a w u' e hr => wp_ret ⟨S, B, u', hr, Q.mono _ _ _ _ e h⟩
theorem zyc {id : Nat} (h : Q.f (.exit id) S u) : SW P w0 u0 (.exit id) S u Q := fun B a w u' e hr => wp_exit ⟨S, B, u', hr, Q.mono _ _ _ _ e h⟩
theorem zzt {id : Nat} (h : SW P w0 u0 c S u (MP.block id Q)) : SW P w0 u0 (.block id c) S u Q := by
 intro B a w u' e hr
 refine wp_block (wp_mono (h B a w u' e hr) fun ex a' w' ⟨S', B', u'', h1, h3⟩ => ?_)
 cases ex with
 | exit id' =>
  simp only [Exit.inBlock]
  by_cases hid : id' = id
  ·subst hid
   rw [if_pos rfl]
   simp only [MP.block, Nat.beq_refl, cond_true] at h3
   exact ⟨S', B', u'', h1, h3⟩
  ·rw [if_neg hid]
   have hb : Nat.beq id' id = false := by
    cases h : Nat.beq id' id with
    | true => exact absurd (Nat.eq_of_beq_eq_true h) hid
    | false => rfl
   simp only [MP.block, hb, cond_false] at h3
   exact ⟨S', B', u'', h1, h3⟩
 | _ => exact ⟨S', B', u'', h1, h3⟩
theorem zzu {t : Tmp} {b : Bool} (hr : S.reg t = some (.v (.bool b))) (h1 : b = true → SW P w0 u0 c S u Q) (h2 : b = false → SW P w0 u0 d S u Q) : SW P w0 u0 (.cond (.tmp t) c d) S u Q := by
 intro B a w u' e hrep
 refine wp_cond_split (t := b) (hrep.regs.eval hr) (fun hb => h1 hb B a w u' e hrep) (fun hb => h2 hb B a w u' e hrep)
theorem zyr {t : Tmp} (hr : S.reg t = some (.v (.bool true))) (h1 : SW P w0 u0 c S u Q) : SW P w0 u0 (.cond (.tmp t) c d) S u Q := zzu hr (fun _ => h1) (fun h => by cases h)
theorem zys {t : Tmp} (hr : S.reg t = some (.v (.bool false))) (h1 : SW P w0 u0 d S u Q) : SW P w0 u0 (.cond (.tmp t) c d) S u Q := zzu hr (fun h => by cases h) (fun _ => h1)
theorem zzz {id : Nat} {ops : Array Oper} (M : List Nat) (q : List (Nat × List Tmp)) (hm : P.follows .mixedOrders = true) (hok : regOk ops M q = true) (h : sym P ops w0 u0 false (q.map (opAt ops)) S u (Q.f .normal)) : SW P w0 u0 (.region id ops true) S u Q := by
 intro B a w u' e hr
 exact region_any hm hok (Q.mono _) (fun S u'' h B' a' w' hr' => ⟨S, B', u'', hr', h⟩) hr (zxy (Q.mono _) S u u' e h)
theorem zzf {id : Nat} {ops : Array Oper} (h : sym P ops w0 u0 true (ops.toList.map fun o => (o, [])) S u (Q.f .normal)) : SW P w0 u0 (.region id ops false) S u Q := by
 intro B a w u' e hr
 exact region_seq (Q.mono _) (fun S u'' h B' a' w' hr' => ⟨S, B', u'', hr', h⟩) hr (zxy (Q.mono _) S u u' e h)
theorem sq9 {d : Code} {id : Nat} {ops : Array Oper} (h : sym P ops w0 u0 true (ops.toList.map fun o => (o, [])) S u ((MP.seq P w0 u0 d Q).f .normal)) : SW P w0 u0 (.seq (.region id ops false) d) S u Q := zzd (zzf h)
theorem least {p : Nat → Prop} : ∀ n, p n → ∃ m, p m ∧ ∀ k, p k → m ≤ k := by
 intro n
 induction n using Nat.strongRecOn with
 | _ n ih =>
  intro h
  by_cases hc : ∃ k, k < n ∧ p k
  ·obtain ⟨k, h1, h2⟩ := hc; exact ih k h1 h2
  ·exact ⟨n, h, fun k hk => Nat.le_of_not_lt fun hlt => hc ⟨k, hlt, hk⟩⟩
theorem zyn {I : Nat → St → World → Prop} (hI : ∀ m, Mono (I m)) (n : Nat) (hw : Weak S T) (h0 : I n T u) (h : ∀ n S u, I n S u → SW P w0 u0 c S u (MP.loop I n Q hI)) : SW P w0 u0 (.loop c) S u Q := by
 intro B a w u' e hr
 let J : Nat → Act → World → Prop := fun n a w => ∃ S B u'', Rep w0 u0 S B a w u'' ∧ I n S u''
 let μ : Act → World → Nat := fun a w => Classical.epsilon fun m => J m a w ∧ ∀ k, J k a w → m ≤ k
 have hμ : ∀ a w n, J n a w → J (μ a w) a w ∧ μ a w ≤ n := fun a w n hn => by
  have := Classical.epsilon_spec (p := fun m => J m a w ∧ ∀ k, J k a w → m ≤ k) (least n hn)
  exact ⟨this.1, this.2 n hn⟩
 refine wp_loop (fun a w => ∃ n, J n a w) μ ⟨n, T, B, u', hr.weak hw, hI n T u u' e h0⟩ ?_
 rintro a w ⟨n, hn⟩
 obtain ⟨S1, B1, u1, r1, i1⟩ := (hμ a w n hn).1
 refine wp_mono (h _ S1 u1 i1 B1 a w u1 (Ext.refl _) r1) fun ex a' w' ⟨S', B', u'', k1, k3⟩ => ?_
 cases ex with
 | normal =>
  obtain ⟨m, hm, T', t1, t2⟩ := k3
  have hJ : J m a' w' := ⟨T', B', u'', k1.weak t1, t2⟩
  exact ⟨⟨m, hJ⟩, Nat.lt_of_le_of_lt (hμ a' w' m hJ).2 hm⟩
 | _ => exact ⟨S', B', u'', k1, k3⟩
def resV (P : Program) (S : St) : ResultVar → SV → Prop
 | .tmp t, x => S.reg t = some x
 | .cell r T, x => ∃ s off V agg n, S.reg r = some (.adr s off) ∧ S.var s = some V ∧ TyIs P T agg n ∧ PartIs V.cs off agg n x
def resAll (P : Program) (S : St) : List ResultVar → List SV → Prop
 | [], [] => True
 | r :: rs, x :: xs => resV P S r x ∧ resAll P S rs xs
 | _, _ => False
def tupV : List Value → Value
 | [v] => v
 | vs => .tuple vs.toArray
def MP.fin (P : Program) (rs : List ResultVar) (Φ : Value → World → Prop) : MP where
 f e S u := match e with
  | .ret | .normal => ∃ xs pubs, resAll P S rs xs ∧ (∀ t ∈ pubs, ∃ V, S.var t = some V) ∧ ∀ B u1, Ext u u1 → Visible S B u1 pubs → Φ (tupV (xs.map (SV.conc B))) u1
  | _ => False
 mono e := by
  cases e <;> first | exact fun _ _ _ _ h => h | skip
  all_goals exact fun S u u' he ⟨xs, pubs, h1, h2, h3⟩ => ⟨xs, pubs, h1, h2, fun B u1 e1 => h3 B u1 (he.trans e1)⟩
theorem load_res {r : Tmp} {T : TypeId} {x : SV} (h : resV P S (.cell r T) x) (hr : Rep w0 u0 S B a w u) : (do loadVar T (← asAddr (a.tmps.getD r undef)) : Sem Value).run P w = .ok (x.conc B) w := by
 obtain ⟨s, off, V, agg, n, g1, g2, g3, g4⟩ := h
 have := hr.regs.eval g1
 simp only [Act.eval] at this
 rw [this]
 obtain ⟨r1, r2⟩ := run_load_var (P := P) (off := off) g3 (hr.var s V g2).1
 have e : (do loadVar T (← asAddr ((SV.adr s off).conc B)) : Sem Value).run P w = (Instr.loadAt T (.pointer (some ⟨B s, off, none⟩))).run P w := rfl
 rw [e]
 cases agg with
 | true => obtain ⟨l2, rfl⟩ := g4; exact r1 rfl l2
 | false => obtain ⟨v, l1, rfl⟩ := g4; exact r2 rfl _ l1
def resSem (tmps : Array Value) : ResultVar → Sem Value
 | .tmp t => pure (tmps.getD t undef)
 | .cell a t => do loadVar t (← asAddr (tmps.getD a undef))
theorem zwc {r : ResultVar} {x : SV} (h : resV P S r x) (hr : Rep w0 u0 S B a w u) : (resSem a.tmps r).run P w = .ok (x.conc B) w := by
 cases r with
 | tmp t =>
  have := hr.regs.eval h
  simp only [Act.eval] at this
  simp only [resSem, this]; rfl
 | cell r T => exact load_res h hr
theorem results_def (fn : Func) (tmps : Array Value) : results fn tmps = (do let vs ← fn.results.mapM (resSem tmps); pure (if h : vs.size = 1 then vs[0] else .tuple vs)) := by
 unfold results
 congr 1
theorem results_eq {fn : Func} {rs : List ResultVar} {xs : List SV} (hfn : fn.results = rs.toArray) (h : resAll P S rs xs) (hr : Rep w0 u0 S B a w u) (hl : rs.length ≤ 4) : (results fn a.tmps).run P w = .ok (tupV (xs.map (SV.conc B))) w := by
 rw [results_def, hfn]
 match rs, xs, h with
 | [], [], _ => simp [go_sem, tupV]
 | [r1], [x1], ⟨h1, _⟩ =>
  have k1 := zwc h1 hr
  simp [go_sem, tupV, k1]
 | [r1, r2], [x1, x2], ⟨h1, h2, _⟩ =>
  have k1 := zwc h1 hr
  have k2 := zwc h2 hr
  simp [go_sem, tupV, k1, k2]
 | [r1, r2, r3], [x1, x2, x3], ⟨h1, h2, h3, _⟩ =>
  have k1 := zwc h1 hr
  have k2 := zwc h2 hr
  have k3 := zwc h3 hr
  simp [go_sem, tupV, k1, k2, k3]
 | [r1, r2, r3, r4], [x1, x2, x3, x4], ⟨h1, h2, h3, h4, _⟩ =>
  have k1 := zwc h1 hr
  have k2 := zwc h2 hr
  have k3 := zwc h3 hr
  have k4 := zwc h4 hr
  simp [go_sem, tupV, k1, k2, k3, k4]
def St.init (n : Nat) (args : List Value) : St := ⟨n, fun t => (args[t]?).map SV.v, fun _ => none⟩
theorem zzm {f : FuncId} {fn : Func} {args : List Value} {Φ : Value → World → Prop} {rs : List ResultVar} {n : Nat} (hf : P.funcs[f]? = some fn) (hb : fn.body = some c) (hn : fn.ntmps = n) (hrs : fn.results = rs.toArray) (hargs : args.length ≤ n) (hl : rs.length ≤ 4) {w0 : World} (d : Dat u0 w0) (h : SW P ⟨w0, none, []⟩ u0 c (St.init n args) u0 (MP.fin P rs Φ)) :
  Calls P f args.toArray w0 (Post u0 w0 Φ) := by
 refine calls_of_wp hf hb (wp_mono (h (fun _ => 0) _ w0 u0 (Ext.refl _) ?_) ?_)
 ·refine ⟨⟨fun t x hx => ?_, by simp [St.init, hn]; omega⟩, ⟨fun r x t hx ht => ?_⟩, rfl, (fun t V h => by cases h), (fun t t' V V' h => by cases h), d, d.size, GrowF.refl _ _, ⟨rfl, rfl, rfl, Nat.le_refl _, fun _ _ _ _ => rfl⟩⟩
  ·simp only [St.init, Option.map_eq_some_iff] at hx
   obtain ⟨v, h1, rfl⟩ := hx
   have hlt : t < args.toArray.size := by have := (List.getElem?_eq_some_iff.1 h1).1; simpa using this
   rw [Array.getElem?_append_left hlt]
   show args.toArray[t]? = some v
   simpa using h1
  ·simp only [St.init, Option.map_eq_some_iff] at hx
   obtain ⟨v, h1, rfl⟩ := hx
   cases ht
 ·rintro ex a' w' ⟨S', B', u'', r1, r3⟩
  have key : (∃ xs pubs, resAll P S' rs xs ∧ (∀ t ∈ pubs, ∃ V, S'.var t = some V) ∧ ∀ B u1, Ext u'' u1 → Visible S' B u1 pubs → Φ (tupV (xs.map (SV.conc B))) u1) → a'.defers = [] ∧ ∃ v, (results fn a'.tmps).run P w' = .ok v w' ∧ Post u0 w0 Φ (.returned v) w' := by
   rintro ⟨xs, pubs, k1, k2, k3⟩
   refine ⟨r1.defers, _, results_eq hrs k1 r1 hl, _, pubW u'' w' (pubs.map B'), rfl, pubW_dat r1.dat, ⟨r1.bel.os, r1.bel.tape, r1.bel.output, r1.bel.size, fun k hk => r1.bel.block k hk (fun t e => by cases e) (by simp)⟩, (pubW_grow r1.grow (fun b hb => ?_)).nil, k3 B' _ (pubW_ext r1.dat) (fun t ht V hV => ?_)⟩
   ·obtain ⟨t, ht, rfl⟩ := List.mem_map.1 hb
    obtain ⟨V, hV⟩ := k2 t ht
    have ho := (r1.var t V hV).2.2
    rcases Nat.lt_or_ge t S'.n with hs3 | hs3
    ·exact ho.1 hs3
    ·exact absurd (ho.2 hs3) (by simp)
   ·obtain ⟨v1, v2, _⟩ := r1.var t V hV
    rw [pubW_in (List.mem_map_of_mem ht) (zyz v2) r1.dat.size]
    exact v1
  cases ex with
  | ret => exact key r3
  | normal => exact key r3
  | _ => exact r3.elim
def St.lentI (n : Nat) (ty : TypeId) (cs : List Value) (len cap : Nat) (args : List Value) : St := ⟨n, fun t => match t with | 0 => some (.slc n 0 len cap) | t + 1 => (args[t]?).map SV.v, upd (fun _ => none) n (some ⟨ty, cs⟩)⟩
def MP.lent (n : Nat) (Φ : Vr → World → Prop) : MP where
 f e S u := match e with | .normal => ∃ V, S.n = n ∧ S.var n = some V ∧ ∀ u1, Ext u u1 → Φ V u1 | .ret => ∃ V, S.n = n ∧ S.var n = some V ∧ ∀ u1, Ext u u1 → Φ V u1 | _ => False
 mono e := by cases e <;> first | exact fun S u u' he ⟨V, h0, h1, h2⟩ => ⟨V, h0, h1, fun u1 e1 => h2 u1 (he.trans e1)⟩ | exact fun S u u' he h => h
def PostL (u w : World) (g : Nat) (Φ : Vr → World → Prop) (e : Ending) (w' : World) : Prop :=
 ∃ u' V, e = .returned (.tuple #[]) ∧ Dat u' w' ∧ Bel ⟨w, some (0, g), []⟩ w' ∧ Grow u u' ∧ w'.heap[g]? = some (.cells V.cs.toArray V.ty (0, 0)) ∧ Φ V u'
theorem lent_begin {fn : Func} {args : List Value} {n g len cap : Nat} {ty : TypeId} {cs : List Value} {w : World} (hn : fn.ntmps = n) (hargs : args.length + 1 ≤ n) (d : Dat u0 w)
  (hgw : w.heap[g]? = some (.cells cs.toArray ty (0, 0))) (hgu : u0.heap[g]? = some hidO) {a : Act} (ha : a.tmps = (Value.slice (some ⟨g, 0, none⟩) len cap :: args).toArray ++ Array.replicate (fn.ntmps - (Value.slice (some ⟨g, 0, none⟩) len cap :: args).toArray.size) undef) (hdf : a.defers = []) :
  Rep ⟨w, some (n, g), []⟩ u0 (St.lentI n ty cs len cap args) (fun _ => g) a w u0 := by
 refine ⟨⟨fun t x hx => ?_, by rw [ha]; simp [St.lentI, hn]; omega⟩, ⟨fun r x t hx ht => ?_⟩, hdf, (fun t V hV => ?_), (fun t t' V V' h1 h2 _ => ?_), d, d.size, GrowF.refl _ _, ⟨rfl, rfl, rfl, Nat.le_refl _, fun _ _ _ _ => rfl⟩⟩
 ·have key : ((Value.slice (some ⟨g, 0, none⟩) len cap :: args).toArray)[t]? = some (x.conc fun _ => g) := by
   cases t with
   | zero => simp only [St.lentI] at hx; injection hx with hx; subst hx; rfl
   | succ t =>
    simp only [St.lentI, Option.map_eq_some_iff] at hx
    obtain ⟨v, h1, rfl⟩ := hx
    simpa [SV.conc] using h1
  have hlt : t < (Value.slice (some ⟨g, 0, none⟩) len cap :: args).toArray.size := by
   rcases Nat.lt_or_ge t (Value.slice (some ⟨g, 0, none⟩) len cap :: args).toArray.size with h | h
   ·exact h
   ·rw [Array.getElem?_eq_none h] at key; cases key
  rw [ha, Array.getElem?_append_left hlt]
  exact key
 ·cases r with
  | zero => simp only [St.lentI] at hx; injection hx with hx; subst hx; injection ht with ht; subst ht; exact ⟨⟨ty, cs⟩, by simp [St.lentI, zxb]⟩
  | succ r =>
   simp only [St.lentI, Option.map_eq_some_iff] at hx
   obtain ⟨v, h1, rfl⟩ := hx
   cases ht
 ·by_cases e : t = n
  ·subst e
   simp only [St.lentI, zxb] at hV
   injection hV with hV
   subst hV
   exact ⟨hgw, hgu, fun e => absurd e (by simp [St.lentI]), fun _ => rfl⟩
  ·simp only [St.lentI, upd_ne _ _ e] at hV; cases hV
 ·have key : ∀ t V, (St.lentI n ty cs len cap args).var t = some V → t = n := fun t V hV => by
   by_cases e : t = n
   ·exact e
   ·simp only [St.lentI, upd_ne _ _ e] at hV; cases hV
  rw [key t V h1, key t' V' h2]
theorem lent_pin {n g : Nat} {w w' : World} {S' : St} {B' : Tmp → Nat} {a' : Act} {u'' : World} {V : Vr} (r1 : Rep ⟨w, some (n, g), []⟩ u0 S' B' a' w' u'') (k0 : S'.n = n) (k1 : S'.var n = some V) : B' n = g := by
 have := (r1.var n V k1).2.2.2 (by rw [k0]; exact Nat.le_refl _)
 injection this with this; injection this with _ this; exact this.symm
theorem lent_bel {n g : Nat} {w w' : World} (h : Bel ⟨w, some (n, g), []⟩ w') : Bel ⟨w, some (0, g), []⟩ w' :=
 ⟨h.os, h.tape, h.output, h.size, fun k hk hl hf => h.block k hk (fun t e => hl 0 (by injection e with e; injection e with e1 e2; subst e2; rfl)) hf⟩
theorem calls_lent {f : FuncId} {fn : Func} {args : List Value} {Φ : Vr → World → Prop} {n g len cap : Nat} {ty : TypeId} {cs : List Value} {w : World} (hf : P.funcs[f]? = some fn) (hb : fn.body = some c) (hn : fn.ntmps = n) (hrs : fn.results = #[]) (hargs : args.length + 1 ≤ n) (d : Dat u0 w)
  (hgw : w.heap[g]? = some (.cells cs.toArray ty (0, 0))) (hgu : u0.heap[g]? = some hidO) (h : SW P ⟨w, some (n, g), []⟩ u0 c (St.lentI n ty cs len cap args) u0 (MP.lent n Φ)) :
  Calls P f (Value.slice (some ⟨g, 0, none⟩) len cap :: args).toArray w (PostL u0 w g Φ) := by
 refine calls_of_wp hf hb (wp_mono (h (fun _ => g) _ w u0 (Ext.refl _) (lent_begin hn hargs d hgw hgu rfl rfl)) ?_)
 rintro ex a' w' ⟨S', B', u'', r1, r3⟩
 have key : (∃ V, S'.n = n ∧ S'.var n = some V ∧ ∀ u1, Ext u'' u1 → Φ V u1) → a'.defers = [] ∧ ∃ v, (results fn a'.tmps).run P w' = .ok v w' ∧ PostL u0 w g Φ (.returned v) w' := by
  rintro ⟨V, k0, k1, k2⟩
  obtain ⟨g1, g2, g3⟩ := r1.var n V k1
  refine ⟨r1.defers, _, results_eq (rs := []) (xs := []) hrs trivial r1 (by simp), u'', V, rfl, r1.dat, lent_bel r1.bel, r1.grow.nil, ?_, k2 _ (Ext.refl _)⟩
  rw [← lent_pin r1 k0 k1]; exact g1
 cases ex with
 | ret => exact key r3
 | normal => exact key r3
 | _ => exact r3.elim
theorem lent_end {n : Nat} {Φ : Vr → World → Prop} {V : Vr} (hn : S.n = n) (hv : S.var n = some V) (k : ∀ u1, Ext u u1 → Φ V u1) : (MP.lent n Φ).f .normal S u := ⟨V, hn, hv, k⟩
def MP.lentS (P : Program) (ρ : ResultVar) (n cap : Nat) (Φ : Nat → Vr → World → Prop) : MP where
 f e S u := match e with | .normal => ∃ V m, S.n = n ∧ S.var n = some V ∧ resAll P S [ρ] [.slc n 0 m cap] ∧ ∀ u1, Ext u u1 → Φ m V u1 | .ret => ∃ V m, S.n = n ∧ S.var n = some V ∧ resAll P S [ρ] [.slc n 0 m cap] ∧ ∀ u1, Ext u u1 → Φ m V u1 | _ => False
 mono e := by cases e <;> first | exact fun S u u' he ⟨V, m, h0, h1, h2, h3⟩ => ⟨V, m, h0, h1, h2, fun u1 e1 => h3 u1 (he.trans e1)⟩ | exact fun S u u' he h => h
def PostS (u w : World) (g cap : Nat) (Φ : Nat → Vr → World → Prop) (e : Ending) (w' : World) : Prop :=
 ∃ u' V m, e = .returned (.slice (some ⟨g, 0, none⟩) m cap) ∧ Dat u' w' ∧ Bel ⟨w, some (0, g), []⟩ w' ∧ Grow u u' ∧ w'.heap[g]? = some (.cells V.cs.toArray V.ty (0, 0)) ∧ Φ m V u'
theorem calls_lentS {f : FuncId} {fn : Func} {args : List Value} {Φ : Nat → Vr → World → Prop} {ρ : ResultVar} {n g len cap : Nat} {ty : TypeId} {cs : List Value} {w : World} (hf : P.funcs[f]? = some fn) (hb : fn.body = some c) (hn : fn.ntmps = n) (hrs : fn.results = #[ρ]) (hargs : args.length + 1 ≤ n) (d : Dat u0 w)
  (hgw : w.heap[g]? = some (.cells cs.toArray ty (0, 0))) (hgu : u0.heap[g]? = some hidO) (h : SW P ⟨w, some (n, g), []⟩ u0 c (St.lentI n ty cs len cap args) u0 (MP.lentS P ρ n cap Φ)) :
  Calls P f (Value.slice (some ⟨g, 0, none⟩) len cap :: args).toArray w (PostS u0 w g cap Φ) := by
 refine calls_of_wp hf hb (wp_mono (h (fun _ => g) _ w u0 (Ext.refl _) (lent_begin hn hargs d hgw hgu rfl rfl)) ?_)
 rintro ex a' w' ⟨S', B', u'', r1, r3⟩
 have key : (∃ V m, S'.n = n ∧ S'.var n = some V ∧ resAll P S' [ρ] [.slc n 0 m cap] ∧ ∀ u1, Ext u'' u1 → Φ m V u1) → a'.defers = [] ∧ ∃ v, (results fn a'.tmps).run P w' = .ok v w' ∧ PostS u0 w g cap Φ (.returned v) w' := by
  rintro ⟨V, m, k0, k1, k2, k3⟩
  obtain ⟨g1, g2, g3⟩ := r1.var n V k1
  have hp := lent_pin r1 k0 k1
  refine ⟨r1.defers, _, results_eq (rs := [ρ]) hrs k2 r1 (by simp), u'', V, m, ?_, r1.dat, lent_bel r1.bel, r1.grow.nil, ?_, k3 _ (Ext.refl _)⟩
  ·simp [tupV, SV.conc, hp]
  ·rw [← hp]; exact g1
 cases ex with
 | ret => exact key r3
 | normal => exact key r3
 | _ => exact r3.elim
theorem lentS_ret {ρ : ResultVar} {n cap : Nat} {Φ : Nat → Vr → World → Prop} {V : Vr} (m : Nat) (hn : S.n = n) (hv : S.var n = some V) (hr : resV P S ρ (.slc n 0 m cap)) (k : ∀ u1, Ext u u1 → Φ m V u1) : (MP.lentS P ρ n cap Φ).f .ret S u := ⟨V, m, hn, hv, ⟨hr, trivial⟩, k⟩
end
def St.set (S : St) (d : Tmp) (x : SV) : St := ⟨S.n, upd S.reg d (some x), S.var⟩
def St.new (S : St) (d : Tmp) (V : Vr) : St := ⟨S.n, upd S.reg d (some (.adr d 0)), upd S.var d (some V)⟩
def St.lit (S : St) (d : Tmp) (V : Vr) (n : Nat) : St := ⟨S.n, upd S.reg d (some (.slc d 0 n n)), upd S.var d (some V)⟩
def lookL {α : Type} : List (Tmp × α) → Tmp → Option α
 | [], _ => none
 | p :: l, t => bif Nat.beq t p.1 then some p.2 else lookL l t
def St.of (n : Nat) (l : List (Tmp × SV)) (m : List (Tmp × Vr)) : St := ⟨n, lookL l, lookL m⟩
def evO (S : St) : Operand → Option SV
 | .tmp t => S.reg t
 | .const v => some (.v v)
 | .global g => some (.v (.pointer (some ⟨g, 0, none⟩)))
 | .func f => some (.v (.func (.func f) #[] #[]))
def rho (S : St) (B : Tmp → Nat) (z : Operand) : Value := match evO S z with | some x => x.conc B | none => undef
def knownB (S : St) (o : Oper) : Bool := o.op.operands.toList.all fun z => (evO S z).isSome
def freeB (S : St) (d : Tmp) : Bool := Nat.blt d S.n && ((S.reg d).bind SV.at?).isNone
def fromB (ops : Array Oper) (o : Oper) (S : St) (x : SV) : Bool :=
 match x.at? with
 | none => true
 | some t => (o.looksAt ops).any fun r => match S.reg r with | some z => (match z.at? with | some t' => Nat.beq t' t | none => false) | none => false
section
variable {P : Program} {ops : Array Oper} {w0 : Base} {u0 : World} {S T : St} {B : Tmp → Nat} {a : Act} {w u u' : World} {o : Oper} {p : List Tmp} {seq : Bool} {rest : List (Oper × List Tmp)} {K : St → World → Prop}
theorem rho_eval (hr : RegOK S B a) (h : knownB S o = true) : ∀ z ∈ o.op.operands, a.eval z = rho S B z := by
 intro z hz
 have := List.all_eq_true.1 h z (by simpa using hz)
 unfold rho
 cases z with
 | tmp t =>
  obtain ⟨x, hx⟩ := Option.isSome_iff_exists.1 this
  rw [hx]
  exact hr.eval hx
 | _ => rfl
theorem exec_rho (hr : RegOK S B a) (h : knownB S o = true) (hk : opK o.op ≠ 2) : execOp a.eval o = execOp (rho S B) o := execOp_congr o (notSelect hk) (rho_eval hr h)
def Wants (ops : Array Oper) (o : Oper) (S : St) : Prop := ∀ B a, RegOK S B a → Want ops o a true
theorem zwb (h : o.guard = none) : Wants ops o S := fun B a hr => by simp [Want, Region.wanted, h]
theorem wants1 {g : Nat} {b : Bool} {t : Tmp} (h : o.guard = some (g, b)) (ht : (ops[g]?).bind (·.dst) = some t) (hS : S.reg t = some (.v (.bool b))) : Wants ops o S := fun B a hr => by
 have := hr.reg t _ hS
 simp [Want, Region.wanted, h, yielded, ht, this, SV.conc]
theorem unwanted {g : Nat} {b c : Bool} {t : Tmp} (h : o.guard = some (g, b)) (ht : (ops[g]?).bind (·.dst) = some t) (hS : S.reg t = some (.v (.bool c))) (hne : (c == b) = false) : ∀ B a, RegOK S B a → Want ops o a false := fun B a hr => by
 have := hr.reg t _ hS
 simp [Want, Region.wanted, h, yielded, ht, this, SV.conc]
 simpa using hne
theorem zxt {d : Tmp} (hd : o.dst = some d) (h : freeB S d = true) : Free o S := fun d' hd' => by
 rw [hd] at hd'; injection hd' with hd'; subst hd'
 simp only [freeB, Bool.and_eq_true, Option.isNone_iff_eq_none] at h
 exact ⟨Nat.le_of_ble_eq_true h.1, h.2⟩
theorem from_of {x : SV} (h : fromB ops o S x = true) : From ops o S x := fun t ht => by
 simp only [fromB, ht] at h
 obtain ⟨r, hr, h2⟩ := List.any_eq_true.1 h
 cases hz : S.reg r with
 | none => simp [hz] at h2
 | some z =>
  simp only [hz] at h2
  cases hz2 : z.at? with
  | none => simp [hz2] at h2
  | some t' =>
   simp only [hz2] at h2
   exact ⟨r, hr, z, hz, by rw [hz2, Nat.eq_of_beq_eq_true h2]⟩
theorem zza (d : Tmp) (x : SV) (k : sym P ops w0 u0 seq rest (S.set d x) u K) (hw : Wants ops o S := by exact zwb xv) (hd : o.dst = some d := by kernel_rfl) (hk : opK o.op ≠ 2 := by decide) (hf : (freeB S d && knownB S o && fromB ops o S x) = true := by kernel_rfl)
  (hrun : ∀ B w, (execOp (rho S B) o).run P w = .ok (.value (x.conc B)) w := by intro _ _; kernel_rfl) : sym P ops w0 u0 seq ((o, p) :: rest) S u K := by
 simp only [Bool.and_eq_true] at hf
 refine .inl ⟨hk, .set x, ⟨zxt hd hf.1.1, .inl ⟨from_of hf.2, fun B a w u' hr _ _ => ⟨hw B a hr, ?_⟩⟩⟩, ?_⟩
 ·rw [exec_rho hr hf.1.2 hk]; exact hrun B w
 ·show sym P ops w0 u0 seq rest (S.put o.dst (some x)) u K
  rw [hd]; exact k
theorem zzi (d : Tmp) {T : TypeId} {r s : Tmp} {off : Nat} {V : Vr} {agg : Bool} {n : Nat} (x : SV) (hT : TyIs P T agg n) (hx : PartIs V.cs off agg n x) (k : sym P ops w0 u0 seq rest (S.set d x) u K) (hw : Wants ops o S := by exact zwb xv) (hd : o.dst = some d := by kernel_rfl) (hop : o.op = .load T (.tmp r) := by rfl) (hf : freeB S d = true := by kernel_rfl) (hr : S.reg r = some (.adr s off) := by rfl) (hv : S.var s = some V := by rfl) : sym P ops w0 u0 seq ((o, p) :: rest) S u K := by
 refine .inl ⟨by rw [hop]; exact (by decide : (0 : Nat) ≠ 2), .set x, ⟨zxt hd hf, .inr ⟨T, r, s, off, V, agg, n, hop, hr, hv, hT, hx, hw⟩⟩, ?_⟩
 show sym P ops w0 u0 seq rest (S.put o.dst (some x)) u K
 rw [hd]; exact k
theorem zzk (d : Tmp) (V : Vr) (k : sym P ops w0 u0 seq rest (S.new d V) u K) (hw : Wants ops o S := by exact zwb xv) (hd : o.dst = some d := by kernel_rfl) (hk : opK o.op ≠ 2 := by decide) (hf : (freeB S d && knownB S o) = true := by kernel_rfl) (hv : S.var d = none := by kernel_rfl)
  (hrun : ∀ B w, (execOp (rho S B) o).run P w = .ok (.value (.pointer (some ⟨w.heap.size, 0, none⟩))) (w.alloc (.cells V.cs.toArray V.ty)) := by intro _ _; kernel_rfl) : sym P ops w0 u0 seq ((o, p) :: rest) S u K := by
 simp only [Bool.and_eq_true] at hf
 refine .inl ⟨hk, .new V, ⟨zxt hd hf.1, d, hd, hv, fun B a w hr => ⟨hw B a hr, ?_⟩⟩, ?_⟩
 ·rw [exec_rho hr hf.2 hk]; exact hrun B w
 ·show sym P ops w0 u0 seq rest (S.app o.dst (.new V)) u K
  rw [hd]; exact k
theorem sy_lit (d : Tmp) (V : Vr) (n : Nat) (k : sym P ops w0 u0 seq rest (S.lit d V n) u K) (hw : Wants ops o S := by exact zwb xv) (hd : o.dst = some d := by kernel_rfl) (hk : opK o.op ≠ 2 := by decide) (hf : (freeB S d && knownB S o) = true := by kernel_rfl) (hv : S.var d = none := by kernel_rfl)
  (hrun : ∀ B w, (execOp (rho S B) o).run P w = .ok (.value (.slice (some ⟨w.heap.size, 0, none⟩) n n)) (w.alloc (.cells V.cs.toArray V.ty)) := by intro _ _; kernel_rfl) : sym P ops w0 u0 seq ((o, p) :: rest) S u K := by
 simp only [Bool.and_eq_true] at hf
 refine .inl ⟨hk, .lit V n, ⟨zxt hd hf.1, d, hd, hv, fun B a w hr => ⟨hw B a hr, ?_⟩⟩, ?_⟩
 ·rw [exec_rho hr hf.2 hk]; exact hrun B w
 ·show sym P ops w0 u0 seq rest (S.app o.dst (.lit V n)) u K
  rw [hd]; exact k
theorem zzn (d : Tmp) (hw : ∀ B a, RegOK S B a → Want ops o a false) (k : sym P ops w0 u0 seq rest (S.set d (.v undef)) u K) (hd : o.dst = some d := by kernel_rfl) (hk : opK o.op ≠ 2 := by decide) (hf : freeB S d = true := by kernel_rfl) : sym P ops w0 u0 seq ((o, p) :: rest) S u K := by
 refine .inl ⟨hk, .drop, ⟨zxt hd hf, hw⟩, ?_⟩
 show sym P ops w0 u0 seq rest (S.put o.dst (some (.v undef))) u K
 rw [hd]; exact k
theorem unpub_nil (S : St) : S.unpub [] = S := by cases S; rfl
theorem zzg (d : Tmp) (f : FuncId) (args : List Value) (k : ∀ w u1, Ext u u1 → Dat u1 w → Calls P f args.toArray w (Post u1 w fun v u2 => sym P ops w0 u0 seq rest (S.set d (.v v)) u2 K)) (hw : Wants ops o S := by exact zwb xv) (hd : o.dst = some d := by kernel_rfl) (hk : opK o.op = 1 := by kernel_rfl) (hp : p = [] := by rfl) (hf : (freeB S d && knownB S o) = true := by kernel_rfl)
  (hrun : ∀ B w, (execOp (rho S B) o).run P w = .ok (.enter f args.toArray) w := by intro _ _; kernel_rfl) : sym P ops w0 u0 seq ((o, p) :: rest) S u K := by
 simp only [Bool.and_eq_true] at hf
 subst hp
 have hm : ∀ B : Tmp → Nat, (args.map SV.v).map (SV.conc B) = args := fun B => by rw [List.map_map]; exact (List.map_congr_left fun y _ => rfl).trans (List.map_id args)
 refine .inr (.inl ⟨hk, f, args.map SV.v, [], fun _ => rfl, ⟨zxt hd hf.1, fun z hz t ht => ?_, fun B a w hr => ⟨hw B a hr, ?_⟩⟩, ⟨(fun t h => by cases h), (fun r x t _ _ h => by cases h)⟩, fun B w u1 e1 d1 _ => ?_⟩)
 ·obtain ⟨y, _, rfl⟩ := List.mem_map.1 hz; cases ht
 ·rw [exec_rho hr hf.2 (by rw [hk]; decide), hm]; exact hrun B w
 ·rw [hm]
  refine Post.mono (k w u1 e1 d1) fun v u2 _ h => ?_
  rw [unpub_nil]
  show sym P ops w0 u0 seq rest (S.put o.dst (some (.v v))) u2 K
  rw [hd]; exact h
theorem zyo (d : Tmp) (f : FuncId) (args : List SV) (pubs : List Tmp) (hp : seq = true ∨ p = pubs) (hpub : PubOK S pubs) (hw : Wants ops o S := by exact zwb xv) (hd : o.dst = some d := by kernel_rfl) (hk : opK o.op = 1 := by kernel_rfl) (hf : (freeB S d && knownB S o && args.all (fromB ops o S)) = true := by kernel_rfl)
  (hrun : ∀ B w, (execOp (rho S B) o).run P w = .ok (.enter f (args.map (SV.conc B)).toArray) w := by intro _ _; kernel_rfl)
  (k : ∀ B w u1, Ext u u1 → Dat u1 w → Visible S B u1 pubs → Calls P f (args.map (SV.conc B)).toArray w (Post u1 w fun v u2 => sym P ops w0 u0 seq rest ((S.unpub pubs).set d (.v v)) u2 K)) : sym P ops w0 u0 seq ((o, p) :: rest) S u K := by
 simp only [Bool.and_eq_true] at hf
 refine .inr (.inl ⟨hk, f, args, pubs, fun h => ?_, ⟨zxt hd hf.1.1, fun z hz => from_of (List.all_eq_true.1 hf.2 z hz), fun B a w hr => ⟨hw B a hr, ?_⟩⟩, hpub, fun B w u1 e1 d1 v1 => ?_⟩)
 ·rcases hp with hp | hp
  ·rw [h] at hp; cases hp
  ·exact hp.symm
 ·rw [exec_rho hr hf.1.2 (by rw [hk]; decide)]; exact hrun B w
 ·refine Post.mono (k B w u1 e1 d1 v1) fun v u2 _ h => ?_
  show sym P ops w0 u0 seq rest ((S.unpub pubs).put o.dst (some (.v v))) u2 K
  rw [hd]; exact h
theorem zzj {T : TypeId} {r s : Tmp} {z : Operand} {off : Nat} {V : Vr} (V' : Vr) {v : Value} {agg : Bool} {n : Nat} (hT : TyIs P T agg n) (k : sym P ops w0 u0 seq rest (S.setVar s V') u K) (hw : Wants ops o S := by exact zwb xv) (hd : o.dst = none := by kernel_rfl) (hop : o.op = .store T (.tmp r) z := by rfl) (hr : S.reg r = some (.adr s off) := by rfl) (hv : S.var s = some V := by rfl) (hz : evO S z = some (.v v) := by rfl)
  (hn : v.cells.size = n := by kernel_rfl) (hone : v.cells.toList.all Value.oneCell' = true := by kernel_rfl) (hle : Nat.ble (off + n) V.cs.length = true := by kernel_rfl) (hV : V' = ⟨V.ty, setL V.cs off v.cells.toList⟩ := by kernel_rfl) (hnl : (p.all fun r' => match S.reg r' with | some (.adr t _) => !Nat.beq t s | _ => true) = true := by kernel_rfl) : sym P ops w0 u0 seq ((o, p) :: rest) S u K := by
 refine .inr (.inr (.inr (.inl ⟨s, V', ⟨T, r, z, off, V, v, agg, n, hop, hd, hr, hv, fun B a hreg => ?_, hT, hn, hone, Nat.le_of_ble_eq_true hle, hV, hw, fun r' hr' t off' ht => ?_⟩, k⟩)))
 ·cases z with
  | tmp t => exact hreg.eval hz
  | const x => injection hz with hz; injection hz
  | global g => injection hz with hz; injection hz
  | func f => injection hz with hz; injection hz
 ·have := List.all_eq_true.1 hnl r' hr'
  simp only [ht, Bool.not_eq_true'] at this
  rintro rfl
  rw [Nat.beq_refl] at this; cases this
theorem zxs (d : Tmp) (V : Vr) (n : Nat) (k : ∀ b u1, Ext u u1 → u1.heap[b]? = some (.cells V.cs.toArray V.ty (0, 0)) → sym P ops w0 u0 true rest (S.set d (.v (.slice (some ⟨b, 0, none⟩) n n))) u1 K) (hw : Wants ops o S := by exact zwb xv) (hd : o.dst = some d := by kernel_rfl) (hk : opK o.op ≠ 2 := by decide) (hf : (freeB S d && knownB S o) = true := by kernel_rfl)
  (hrun : ∀ B w, (execOp (rho S B) o).run P w = .ok (.value (.slice (some ⟨w.heap.size, 0, none⟩) n n)) (w.alloc (.cells V.cs.toArray V.ty)) := by intro _ _; kernel_rfl) : sym P ops w0 u0 true ((o, p) :: rest) S u K := by
 simp only [Bool.and_eq_true] at hf
 refine .inr (.inr (.inl ⟨.inl rfl, fun B a w u' he hrep => ⟨hw B a hrep.regs, ?_⟩⟩))
 unfold Oper.wp
 rw [exec_rho hrep.regs hf.2 hk, hrun B w]
 have hs : u'.heap.size = w.heap.size := hrep.dat.size
 refine ⟨S.set d (.v (.slice (some ⟨w.heap.size, 0, none⟩) n n)), B, u'.alloc (.cells V.cs.toArray V.ty), u'.alloc (.cells V.cs.toArray V.ty), ?_, fun _ => (zxp _ _).ext, fun _ => he.trans (zxp _ _).ext, Ext.refl _, k _ _ (he.trans (zxp _ _).ext) (by rw [← hs]; exact zxl _ _)⟩
 rw [hd]
 exact (hrep.vis _).set (d := some d) (x := some (.v (.slice (some ⟨w.heap.size, 0, none⟩) n n))) (fun t e => by injection e with e; subst e; exact (zxt hd hf.1 d hd).1) (fun z e => by injection e with e; rw [← e]; rfl) (fun z t e ht => by injection e with e; rw [← e] at ht; cases ht)
theorem le_b {m n : Nat} (h : Nat.ble m n = true) : m ≤ n := Nat.le_of_ble_eq_true h
theorem zze {cs : List Value} {off n : Nat} {x : SV} (h : Nat.ble (off + n) cs.length = true := by kernel_rfl) (hx : x = .v (.agg ((cs.drop off).take n).toArray) := by kernel_rfl) : PartIs cs off true n x := ⟨le_b h, hx⟩
theorem zzl {cs : List Value} {off n : Nat} {v : Value} (h : cs[off]? = some v := by kernel_rfl) : PartIs cs off false n (.v v) := ⟨v, h, rfl⟩
theorem zzr {r : Tmp} {T : TypeId} {s : Tmp} {off : Nat} {V : Vr} {agg : Bool} {n : Nat} {x : SV} (hT : TyIs P T agg n) (hx : PartIs V.cs off agg n x) (hr : S.reg r = some (.adr s off) := by rfl) (hv : S.var s = some V := by rfl) : resV P S (.cell r T) x := ⟨s, off, V, agg, n, hr, hv, hT, hx⟩
theorem zzq {t : Tmp} {x : SV} (h : S.reg t = some x := by kernel_rfl) : resV P S (.tmp t) x := h
theorem ret0 {rs : List ResultVar} {Φ : Value → World → Prop} (vs : List Value) (h : resAll P S rs (vs.map SV.v)) (k : ∀ u1, Ext u u1 → Φ (tupV vs) u1) : (MP.fin P rs Φ).f .ret S u := by
 refine ⟨vs.map SV.v, [], h, (fun t h => by cases h), fun B u1 e1 _ => ?_⟩
 rw [List.map_map, show vs.map (SV.conc B ∘ SV.v) = vs from (List.map_congr_left fun y _ => rfl).trans (List.map_id vs)]
 exact k u1 e1
theorem zyq (d : Tmp) {x : SV} (y : SV) (hxy : x = y) (k : sym P ops w0 u0 seq rest (S.set d y) u K) (hw : Wants ops o S := by exact zwb xv) (hd : o.dst = some d := by kernel_rfl) (hk : opK o.op ≠ 2 := by decide) (hf : (freeB S d && knownB S o && fromB ops o S x) = true := by kernel_rfl)
  (hrun : ∀ B w, (execOp (rho S B) o).run P w = .ok (.value (x.conc B)) w := by intro _ _; kernel_rfl) : sym P ops w0 u0 seq ((o, p) :: rest) S u K := by
 subst hxy; exact zza d x k hw hd hk hf hrun
theorem zzx (k : K S u) : sym P ops w0 u0 seq [] S u K := k
theorem zzp {c : Code} {Q : MP} (h : SW P w0 u0 c S u Q) : (MP.seq P w0 u0 c Q).f .normal S u := h
theorem zzw {c : Code} {Q : MP} (h : Q.f .ret S u) : (MP.seq P w0 u0 c Q).f .ret S u := h
theorem zyu {id : Nat} {Q : MP} (h : Q.f .ret S u) : (MP.block id Q).f .ret S u := h
theorem zyt {I : Nat → St → World → Prop} {n : Nat} {Q : MP} {hI : ∀ m, Mono (I m)} (h : Q.f .ret S u) : (MP.loop I n Q hI).f .ret S u := h
theorem look_mem {α : Type} {l : List (Tmp × α)} {t : Tmp} {x : α} (h : lookL l t = some x) : (t, x) ∈ l := by
 induction l with
 | nil => cases h
 | cons q l ih =>
  simp only [lookL] at h
  cases e : Nat.beq t q.1 with
  | true =>
   rw [e] at h
   injection h with h
   have := Nat.eq_of_beq_eq_true e
   subst this
   subst h
   exact List.mem_cons_self ..
  | false => rw [e] at h; exact List.mem_cons_of_mem _ (ih h)
theorem map_mem {α β : Type} {l : List α} {f g : α → β} (h : l.map f = l.map g) : ∀ x ∈ l, f x = g x := by
 induction l with
 | nil => intro x hx; cases hx
 | cons q l ih =>
  simp only [List.map_cons, List.cons.injEq] at h
  intro x hx
  rcases List.mem_cons.1 hx with rfl | hx
  ·exact h.1
  ·exact ih h.2 x hx
def wfB (l : List (Tmp × SV)) (m : List (Tmp × Vr)) : Bool := l.all fun q => match q.2.at? with | none => true | some t => (lookL m t).isSome
theorem zzv {S : St} (n : Nat) (l : List (Tmp × SV)) (m : List (Tmp × Vr)) (hn : n = S.n := by rfl) (hl : l.map (fun q => S.reg q.1) = l.map (fun q => some q.2) := by kernel_rfl) (hm : m.map (fun q => S.var q.1) = m.map (fun q => some q.2) := by kernel_rfl) (hw : wfB l m = true := by kernel_rfl) : Weak S (St.of n l m) := by
 refine ⟨hn, fun t x h => map_mem hl _ (look_mem h), fun t V h => map_mem hm _ (look_mem h), ⟨fun r x t hx ht => ?_⟩⟩
 have := List.all_eq_true.1 hw _ (look_mem hx)
 simp only [ht] at this
 exact Option.isSome_iff_exists.1 this
theorem zzb {c : Code} {Q : MP} (k : SW P w0 u0 c S u Q) : sym P ops w0 u0 seq [] S u ((MP.seq P w0 u0 c Q).f .normal) := k
theorem zzc {c : Code} {Q : MP} (n : Nat) (l : List (Tmp × SV)) (m : List (Tmp × Vr)) (k : SW P w0 u0 c (St.of n l m) u Q) (hw : Weak S (St.of n l m) := by exact zzv _ _ _) : sym P ops w0 u0 seq [] S u ((MP.seq P w0 u0 c Q).f .normal) := sw_weak hw k
end
section
variable {P : Program} {ops : Array Oper} {w0 : Base} {u0 : World} {S T : St} {B : Tmp → Nat} {a : Act} {w u u' : World} {o : Oper} {p : List Tmp} {seq : Bool} {rest : List (Oper × List Tmp)} {K : St → World → Prop}
def SlIs (P : Program) (T : TypeId) (n : Nat) : Prop := ∃ E agg, P.underlying T = some (.slice E) ∧ TyIs P E agg n
theorem run_index {T : TypeId} {n sz c : Nat} {b off : Nat} {k : IntKind} {i : Int} (hT : SlIs P T sz) (h0 : 0 ≤ i) (h1 : i < n) : (Instr.indexAt T (.slice (some ⟨b, off, none⟩) n c) (.int k i)).run P w = .ok (.pointer (some ⟨b, off + i.toNat * sz, none⟩)) w := by
 obtain ⟨E, agg, hu, hE⟩ := hT
 have hs := (hE w).2
 simp [Instr.indexAt, asIntOf, run_underlying hu, go_sem]
 rw [if_pos ⟨h0, h1⟩]
 rw [hs]; rfl
theorem ev_eval {z : Operand} {x : SV} (hr : RegOK S B a) (h : evO S z = some x) : a.eval z = x.conc B := by
 cases z with
 | tmp t => exact hr.eval h
 | const v => injection h with h; subst h; rfl
 | global g => injection h with h; subst h; rfl
 | func f => injection h with h; subst h; rfl
theorem zya (d : Tmp) (off' : Nat) {T : TypeId} {x ix : Operand} {A : Option Addr} {b off n c sz : Nat} {k : IntKind} {i : Int} (ho : off' = off + i.toNat * sz) (hA : A = some ⟨b, off, none⟩) (h0 : 0 ≤ i) (h1 : i < n) (hT : SlIs P T sz) (kk : sym P ops w0 u0 seq rest (S.set d (.v (.pointer (some ⟨b, off', none⟩)))) u K) (hw : Wants ops o S := by exact zwb xv) (hd : o.dst = some d := by kernel_rfl) (hop : o.op = .indexAddr T x ix := by rfl) (hf : freeB S d = true := by kernel_rfl)
  (hx : evO S x = some (.v (.slice A n c)) := by rfl) (hi : evO S ix = some (.v (.int k i)) := by rfl) : sym P ops w0 u0 seq ((o, p) :: rest) S u K := by
 subst hA ho
 refine .inl ⟨by rw [hop]; exact (by decide : (0 : Nat) ≠ 2), .set (.v (.pointer (some ⟨b, off + i.toNat * sz, none⟩))), ⟨zxt hd hf, .inl ⟨(fun t ht => by cases ht), fun B a w u' hr he hdt => ⟨hw B a hr, ?_⟩⟩⟩, ?_⟩
 ·have e1 : (execOp a.eval o).run P w = (do pure (Next.value (← Instr.indexAt T (a.eval x) (a.eval ix))) : Sem Next).run P w := by unfold execOp; rw [hop]
  rw [e1, ev_eval hr hx, ev_eval hr hi]
  exact run_val (run_index hT h0 h1)
 ·show sym P ops w0 u0 seq rest (S.put o.dst (some _)) u K
  rw [hd]; exact kk
theorem zyl (d : Tmp) {T : TypeId} {r : Tmp} {b off : Nat} (v : Value) (hc : u.cell? ⟨b, off, none⟩ = some v) (hT : TyIs P T false 1) (kk : sym P ops w0 u0 seq rest (S.set d (.v v)) u K) (hw : Wants ops o S := by exact zwb xv) (hd : o.dst = some d := by kernel_rfl) (hop : o.op = .load T (.tmp r) := by rfl) (hf : freeB S d = true := by kernel_rfl)
  (hr : S.reg r = some (.v (.pointer (some ⟨b, off, none⟩))) := by kernel_rfl) : sym P ops w0 u0 seq ((o, p) :: rest) S u K := by
 refine .inl ⟨by rw [hop]; exact (by decide : (0 : Nat) ≠ 2), .set (.v v), ⟨zxt hd hf, .inl ⟨(fun t ht => by cases ht), fun B a w u' hreg he hdt => ⟨hw B a hreg, ?_⟩⟩⟩, ?_⟩
 ·have e1 : (execOp a.eval o).run P w = (do pure (Next.value (← Instr.loadAt T (a.eval (.tmp r)))) : Sem Next).run P w := by unfold execOp; rw [hop]
  rw [e1, hreg.eval hr]
  have hcw : w.cell? ⟨b, off, none⟩ = some v := hdt.ext.cell (he.cell hc)
  refine run_val ?_
  show (Instr.loadAt T (.pointer (some ⟨b, off, none⟩))).run P w = .ok v w
  simp [Instr.loadAt, Instr.sureAddr, loadVar, go_sem, (hT w).1, hcw]
 ·show sym P ops w0 u0 seq rest (S.put o.dst (some _)) u K
  rw [hd]; exact kk
theorem zym (d : Tmp) {T : TypeId} {r : Tmp} {b off : Nat} (l : List Value) (hc : ∀ i, i < l.length → u.cell? ⟨b, off + i, none⟩ = l[i]?) (hT : TyIs P T true l.length) (kk : sym P ops w0 u0 seq rest (S.set d (.v (.agg l.toArray))) u K) (hw : Wants ops o S := by exact zwb xv) (hd : o.dst = some d := by kernel_rfl) (hop : o.op = .load T (.tmp r) := by rfl) (hf : freeB S d = true := by kernel_rfl)
  (hr : S.reg r = some (.v (.pointer (some ⟨b, off, none⟩))) := by kernel_rfl) : sym P ops w0 u0 seq ((o, p) :: rest) S u K := by
 refine .inl ⟨by rw [hop]; exact (by decide : (0 : Nat) ≠ 2), .set (.v (.agg l.toArray)), ⟨zxt hd hf, .inl ⟨(fun t ht => by cases ht), fun B a w u' hreg he hdt => ⟨hw B a hreg, ?_⟩⟩⟩, ?_⟩
 ·have e1 : (execOp a.eval o).run P w = (do pure (Next.value (← Instr.loadAt T (a.eval (.tmp r)))) : Sem Next).run P w := by unfold execOp; rw [hop]
  rw [e1, hreg.eval hr]
  refine run_val ?_
  show (Instr.loadAt T (.pointer (some ⟨b, off, none⟩))).run P w = .ok (.agg l.toArray) w
  have e := run_loadCells (P := P) (w := w) (b := b) (l := l) l.length off #[] 0 (fun j hj => by
   have h1 := hc j hj
   rw [List.getElem?_eq_getElem hj] at h1
   rw [Nat.add_zero, Nat.zero_add, List.getElem?_eq_getElem hj]
   exact hdt.ext.cell (he.cell h1)) (by simp)
  simp only [List.drop_zero, List.take_length] at e
  have e2 : (Instr.loadAt T (.pointer (some ⟨b, off, none⟩))).run P w = (do let x ← loadCells ⟨b, off, none⟩ l.length; pure (.agg x) : Sem Value).run P w := by
   simp [Instr.loadAt, Instr.sureAddr, loadVar, go_sem, (hT w).1, (hT w).2]
  rw [e2]
  simp [loadCells, go_sem, e]
 ·show sym P ops w0 u0 seq rest (S.put o.dst (some _)) u K
  rw [hd]; exact kk
end
section
variable (P : Program) (w0 : Base) (u0 : World)
def MP.rnd (R : St → World → Prop) (hR : Mono R) (Q : MP) : MP where
 f e S u := match e with | .normal => R S u | e => Q.f e S u
 mono e := by cases e <;> first | exact hR | exact Q.mono _
def Rnds (c : Code) (Q : MP) : Nat → { R : St → World → Prop // Mono R }
 | 0 => ⟨fun _ _ => False, fun _ _ _ _ h => h⟩
 | n + 1 => ⟨fun S u => SW P w0 u0 c S u (MP.rnd (Rnds c Q n).1 (Rnds c Q n).2 Q), SW.mono P w0 u0 c _⟩
def MP.rn (c : Code) (Q : MP) (n : Nat) : MP := MP.rnd (Rnds P w0 u0 c Q n).1 (Rnds P w0 u0 c Q n).2 Q
end
section
variable {P : Program} {w0 : Base} {u0 : World} {S T : St} {B : Tmp → Nat} {a : Act} {w u u' : World} {Q : MP} {c d : Code}
theorem sw_rounds (n : Nat) (h : SW P w0 u0 c S u (MP.rn P w0 u0 c Q n)) : SW P w0 u0 (.loop c) S u Q := by
 have key : ∀ n S u, (Rnds P w0 u0 c Q n).1 S u → ∀ B a w u1, Ext u u1 → Rep w0 u0 S B a w u1 → Code.rounds P c (fun e a' w' => ∃ S' B' u'', Rep w0 u0 S' B' a' w' u'' ∧ Q.f e S' u'') n a w := by
  intro n
  induction n with
  | zero => intro S u h; exact h.elim
  | succ n ih =>
   intro S u h B a w u1 e1 hr
   refine wp_mono (h B a w u1 e1 hr) fun ex a' w' ⟨S', B', u'', k1, k3⟩ => ?_
   cases ex with
   | normal => exact ih S' u'' k3 B' a' w' u'' (Ext.refl _) k1
   | _ => exact ⟨S', B', u'', k1, k3⟩
 intro B a w u' e hr
 exact wp_loop_rounds (n + 1) (key (n + 1) S u h B a w u' e hr)
theorem rn_next {n : Nat} (h : SW P w0 u0 c S u (MP.rn P w0 u0 c Q n)) : (MP.rn P w0 u0 c Q (n + 1)).f .normal S u := h
theorem mpr_rn {n : Nat} (h : Q.f .ret S u) : (MP.rn P w0 u0 c Q n).f .ret S u := h
section
variable {ops : Array Oper} {o : Oper} {p : List Tmp} {seq : Bool} {rest : List (Oper × List Tmp)} {K : St → World → Prop}
theorem run_rem {T : TypeId} {k : IntKind} {n m : Int} {x y : Operand} (hm : m ≠ 0) : (do eqGuard .rem T x y (.int k n) (.int k m); binOp .rem T (.int k n) (.int k m) : Sem Value).run P w = .ok (.int k (n.tmod m)) w := by
 simp [eqGuard, binOp, Op.intDiv, hm, go_sem]
theorem run_quo {T : TypeId} {k : IntKind} {n m : Int} {x y : Operand} (hm : m ≠ 0) : (do eqGuard .quo T x y (.int k n) (.int k m); binOp .quo T (.int k n) (.int k m) : Sem Value).run P w = .ok (.int k (k.wrap (n.tdiv m))) w := by
 simp [eqGuard, binOp, Op.intDiv, hm, go_sem]
theorem sy_rem (d : Tmp) {T T2 : TypeId} {x y : Operand} {k : IntKind} {n m : Int} (v : Int) (hm : m ≠ 0) (hv : n.tmod m = v) (kk : sym P ops w0 u0 seq rest (S.set d (.v (.int k v))) u K) (hw : Wants ops o S := by exact zwb xv) (hd : o.dst = some d := by kernel_rfl) (hop : o.op = .binOp .rem T x y T2 := by rfl) (hf : freeB S d = true := by kernel_rfl)
  (hx : evO S x = some (.v (.int k n)) := by rfl) (hy : evO S y = some (.v (.int k m)) := by rfl) : sym P ops w0 u0 seq ((o, p) :: rest) S u K := by
 subst hv
 refine .inl ⟨by rw [hop]; exact (by decide : (0 : Nat) ≠ 2), .set (.v (.int k (n.tmod m))), ⟨zxt hd hf, .inl ⟨(fun t ht => by cases ht), fun B a w u' hr he hdt => ⟨hw B a hr, ?_⟩⟩⟩, ?_⟩
 ·have e1 : (execOp a.eval o).run P w = (do pure (Next.value (← (do eqGuard .rem T x y (a.eval x) (a.eval y); binOp .rem T (a.eval x) (a.eval y)))) : Sem Next).run P w := by unfold execOp; rw [hop]
  rw [e1, ev_eval hr hx, ev_eval hr hy]
  exact run_val (run_rem hm)
 ·show sym P ops w0 u0 seq rest (S.put o.dst (some _)) u K
  rw [hd]; exact kk
theorem sy_quo (d : Tmp) {T T2 : TypeId} {x y : Operand} {k : IntKind} {n m : Int} (v : Int) (hm : m ≠ 0) (hv : k.wrap (n.tdiv m) = v) (kk : sym P ops w0 u0 seq rest (S.set d (.v (.int k v))) u K) (hw : Wants ops o S := by exact zwb xv) (hd : o.dst = some d := by kernel_rfl) (hop : o.op = .binOp .quo T x y T2 := by rfl) (hf : freeB S d = true := by kernel_rfl)
  (hx : evO S x = some (.v (.int k n)) := by rfl) (hy : evO S y = some (.v (.int k m)) := by rfl) : sym P ops w0 u0 seq ((o, p) :: rest) S u K := by
 subst hv
 refine .inl ⟨by rw [hop]; exact (by decide : (0 : Nat) ≠ 2), .set (.v (.int k (k.wrap (n.tdiv m)))), ⟨zxt hd hf, .inl ⟨(fun t ht => by cases ht), fun B a w u' hr he hdt => ⟨hw B a hr, ?_⟩⟩⟩, ?_⟩
 ·have e1 : (execOp a.eval o).run P w = (do pure (Next.value (← (do eqGuard .quo T x y (a.eval x) (a.eval y); binOp .quo T (a.eval x) (a.eval y)))) : Sem Next).run P w := by unfold execOp; rw [hop]
  rw [e1, ev_eval hr hx, ev_eval hr hy]
  exact run_val (run_quo hm)
 ·show sym P ops w0 u0 seq rest (S.put o.dst (some _)) u K
  rw [hd]; exact kk
end
def NoAt (S : St) (pubs : List Tmp) : Prop := ∀ r x t, S.reg r = some x → x.at? = some t → t ∈ pubs → r ∈ pubs
def okAt (pubs : List Tmp) (d : Tmp) (x : SV) : Bool := match x.at? with | none => true | some t => !pubs.contains t || pubs.contains d
theorem okAt_spec {pubs : List Tmp} {d : Tmp} {x : SV} (h : okAt pubs d x = true) {t : Tmp} (ht : x.at? = some t) (hm : t ∈ pubs) : d ∈ pubs := by
 unfold okAt at h
 rw [ht] at h
 simp only [Bool.or_eq_true, Bool.not_eq_true', List.contains_iff_mem] at h
 rcases h with h | h
 ·rw [List.contains_iff_mem.2 hm] at h; cases h
 ·exact h
theorem noAt_of {n : Nat} {l : List (Tmp × SV)} {m : List (Tmp × Vr)} {pubs : List Tmp} (h : (l.all fun q => okAt pubs q.1 q.2) = true := by kernel_rfl) : NoAt (St.of n l m) pubs := fun r x t hx ht hm =>
 okAt_spec (List.all_eq_true.1 h _ (look_mem hx)) ht hm
theorem zwf {n : Nat} {args : List Value} {pubs : List Tmp} : NoAt (St.init n args) pubs := fun r x t hx ht hm => by
 simp only [St.init, Option.map_eq_some_iff] at hx
 obtain ⟨v, h1, rfl⟩ := hx
 cases ht
theorem zyd {d : Tmp} {x : SV} {pubs : List Tmp} (h : NoAt S pubs) (hx : okAt pubs d x = true := by kernel_rfl) : NoAt (S.set d x) pubs := fun r y t hy ht hm => by
 by_cases e : r = d
 ·subst e
  simp only [St.set, zxb] at hy
  injection hy with hy
  subst hy
  exact okAt_spec hx ht hm
 ·simp only [St.set, upd_ne _ _ e] at hy
  exact h r y t hy ht hm
theorem zye {d : Tmp} {V : Vr} {pubs : List Tmp} (h : NoAt S pubs) : NoAt (S.new d V) pubs := fun r y t hy ht hm => by
 by_cases e : r = d
 ·subst e
  simp only [St.new, zxb] at hy
  injection hy with hy
  subst hy
  injection ht with ht; rw [ht]; exact hm
 ·simp only [St.new, upd_ne _ _ e] at hy
  exact h r y t hy ht hm
theorem zyf {d : Tmp} {V : Vr} {n : Nat} {pubs : List Tmp} (h : NoAt S pubs) : NoAt (S.lit d V n) pubs := fun r y t hy ht hm => by
 by_cases e : r = d
 ·subst e
  simp only [St.lit, zxb] at hy
  injection hy with hy
  subst hy
  injection ht with ht; rw [ht]; exact hm
 ·simp only [St.lit, upd_ne _ _ e] at hy
  exact h r y t hy ht hm
theorem zzy {d : Tmp} {V : Vr} {pubs : List Tmp} (h : NoAt S pubs) : NoAt (S.setVar d V) pubs := fun r y t hy ht hm => h r y t hy ht hm
theorem zyb {p pubs : List Tmp} (h : NoAt S pubs) : NoAt (S.unpub p) pubs := fun r y t hy ht hm => by
 refine h r y t ?_ ht hm
 simp only [St.unpub] at hy
 cases e : p.contains r with
 | true => rw [e] at hy; cases hy
 | false => rw [e] at hy; exact hy
theorem pub_mk {pubs : List Tmp} (h : NoAt S pubs) (hk : (pubs.all fun t => Nat.blt t S.n) = true := by kernel_rfl) : PubOK S pubs := by
 refine ⟨fun t ht => ?_, h⟩
 have := List.all_eq_true.1 hk t ht
 exact Nat.le_of_ble_eq_true this
end
end Go.Proofs.Ytdmpfhhhlhoeiaa
namespace Go.Proofs.Ytdmpfhhhlhoeiaa
open Go.RowKit
section
variable {ops : Array Oper} {o : Oper} {S : St}
theorem w1 (g : Nat) (b : Bool) (t : Tmp) (h : o.guard = some (g, b) := by kernel_rfl) (ht : (ops[g]?).bind (·.dst) = some t := by kernel_rfl) (hS : S.reg t = some (.v (.bool b)) := by kernel_rfl) : Wants ops o S := wants1 h ht hS
theorem uw (g : Nat) (b c : Bool) (t : Tmp) (h : o.guard = some (g, b) := by kernel_rfl) (ht : (ops[g]?).bind (·.dst) = some t := by kernel_rfl) (hS : S.reg t = some (.v (.bool c)) := by kernel_rfl) (hne : (c == b) = false := by kernel_rfl) : ∀ B a, RegOK S B a → Want ops o a false := unwanted h ht hS hne
end
end Go.Proofs.Ytdmpfhhhlhoeiaa
namespace Go.Proofs.Ytdmpfhhhlhoeiaa.Nt
set_option linter.unusedVariables false

abbrev B : Nat := 4294967296
def val : List Int → Int
 | [] => 0
 | x :: l => x + 4294967296 * val l
def Dig (l : List Int) : Prop := ∀ x ∈ l, 0 ≤ x ∧ x < 4294967296
def pw : Nat → Int
 | 0 => 1
 | i + 1 => 4294967296 * pw i
theorem pw_pos (i : Nat) : 0 < pw i := by
 induction i with
 | zero => simp [pw]
 | succ i ih => simp only [pw]; omega
theorem pw_add (i j : Nat) : pw (i + j) = pw i * pw j := by
 induction i with
 | zero => simp [pw]
 | succ i ih => rw [show i + 1 + j = i + j + 1 by omega, pw, pw, ih, Int.mul_assoc]
theorem pw_mono {i j : Nat} (h : i ≤ j) : pw i ≤ pw j := by
 obtain ⟨k, rfl⟩ : ∃ k, j = i + k := ⟨j - i, by omega⟩
 rw [pw_add]
 have h1 := pw_pos i
 have h2 := pw_pos k
 have : pw i * 1 ≤ pw i * pw k := Int.mul_le_mul_of_nonneg_left xq xq
 omega
theorem Dig.nil : Dig [] := fun x hx => by simp at hx
theorem Dig.cons {x : Int} {l : List Int} (hx : 0 ≤ x ∧ x < 4294967296) (h : Dig l) : Dig (x :: l) := by
 intro y hy
 rcases List.mem_cons.1 hy with rfl | hy
 ·exact hx
 ·exact h y hy
theorem Dig.head {x : Int} {l : List Int} (h : Dig (x :: l)) : 0 ≤ x ∧ x < 4294967296 := h x (by simp)
theorem Dig.tail {x : Int} {l : List Int} (h : Dig (x :: l)) : Dig l := fun y hy => h y (by simp [hy])
theorem Dig.at {l : List Int} (h : Dig l) (i : Nat) : 0 ≤ l[i]?.getD 0 ∧ l[i]?.getD 0 < 4294967296 := by
 rcases Nat.lt_or_ge i l.length with hi | hi
 ·rw [List.getElem?_eq_getElem hi]; exact h _ (List.getElem_mem hi)
 ·rw [List.getElem?_eq_none hi]; simp
theorem Dig.take {l : List Int} (h : Dig l) (n : Nat) : Dig (l.take n) := fun x hx => h x (List.mem_of_mem_take hx)
theorem Dig.drop {l : List Int} (h : Dig l) (n : Nat) : Dig (l.drop n) := fun x hx => h x (List.mem_of_mem_drop hx)
theorem Dig.append {l m : List Int} (h : Dig l) (k : Dig m) : Dig (l ++ m) := fun x hx => by
 rcases List.mem_append.1 hx with hx | hx
 ·exact h x hx
 ·exact k x hx
theorem Dig.set {l : List Int} (h : Dig l) (i : Nat) {x : Int} (hx : 0 ≤ x ∧ x < 4294967296) : Dig (l.set i x) := fun y hy => by
 rcases List.mem_or_eq_of_mem_set hy with hy | rfl
 ·exact h y hy
 ·exact hx
theorem zxc {l : List Int} (h : Dig l) : 0 ≤ val l := by
 induction l with
 | nil => simp [val]
 | cons x l ih => have := h.head; have := ih h.tail; simp only [val]; omega
theorem val_lt {l : List Int} (h : Dig l) : val l < pw l.length := by
 induction l with
 | nil => simp [val, pw]
 | cons x l ih => have := h.head; have := ih h.tail; simp only [val, List.length_cons, pw]; omega
theorem val_append (l m : List Int) : val (l ++ m) = val l + pw l.length * val m := by
 induction l with
 | nil => simp [val, pw]
 | cons x l ih => simp only [List.cons_append, val, List.length_cons, pw, ih]; rw [Int.mul_add, ← Int.mul_assoc, Int.add_assoc]
def valTo (l : List Int) (i : Nat) : Int := val (l.take i)
theorem zyg (l : List Int) (i : Nat) : valTo l (i + 1) = valTo l i + pw i * l[i]?.getD 0 := by
 unfold valTo
 rcases Nat.lt_or_ge i l.length with hi | hi
 ·rw [List.take_succ_eq_append_getElem hi, val_append, List.getElem?_eq_getElem hi]
  simp [val, Nat.min_eq_left (Nat.le_of_lt hi)]
 ·rw [List.getElem?_eq_none hi, List.take_of_length_le xq, List.take_of_length_le hi]; simp
theorem zyh (l : List Int) {n : Nat} (h : l.length ≤ n) : valTo l n = val l := by unfold valTo; rw [List.take_of_length_le h]
theorem valTo_set_lt (l : List Int) {i j : Nat} (x : Int) (h : i ≤ j) : valTo (l.set j x) i = valTo l i := by
 unfold valTo
 rw [List.take_set]
 congr 1
 exact List.set_eq_of_length_le yz
theorem zxg (l : List Int) {i : Nat} (x : Int) (h : i < l.length) : valTo (l.set i x) (i + 1) = valTo l i + pw i * x := by
 rw [zyg, valTo_set_lt l x (Nat.le_refl _)]
 simp [h]
theorem zyy {l : List Int} (h : Dig l) (i : Nat) : 0 ≤ valTo l i := zxc (h.take i)
theorem zxm {l : List Int} (h : Dig l) (i : Nat) : valTo l i < pw i := by
 have h1 := val_lt (h.take i)
 have : pw (l.take i).length ≤ pw i := pw_mono yz
 unfold valTo; omega
theorem val_split (l : List Int) (i : Nat) (h : i ≤ l.length) : val l = valTo l i + pw i * val (l.drop i) := by
 unfold valTo
 conv => lhs; rw [← List.take_append_drop i l]
 rw [val_append]; simp [Nat.min_eq_left h]

def strip (l : List Int) : List Int :=
 match l with
 | [] => []
 | x :: l => if strip l = [] ∧ x = 0 then [] else x :: strip l
def Norm (l : List Int) : Prop := strip l = l
theorem zwh (l : List Int) : val (strip l) = val l := by
 induction l with
 | nil => rfl
 | cons x l ih =>
  rw [strip]
  split
  ·rename_i h; simp only [val]; rw [← ih, h.1, h.2]; simp [val]
  ·simp only [val]; rw [ih]
theorem strip_dig {l : List Int} (h : Dig l) : Dig (strip l) := by
 induction l with
 | nil => exact Dig.nil
 | cons x l ih =>
  rw [strip]
  split
  ·exact Dig.nil
  ·exact Dig.cons h.head (ih h.tail)
theorem strip_strip (l : List Int) : strip (strip l) = strip l := by
 induction l with
 | nil => rfl
 | cons x l ih =>
  rw [strip]
  split
  ·rfl
  ·rename_i h
   rw [strip, ih, if_neg h]
theorem strip_norm (l : List Int) : Norm (strip l) := strip_strip l
theorem zyi (l : List Int) : (strip l).length ≤ l.length := by
 induction l with
 | nil => exact Nat.le_refl _
 | cons x l ih =>
  rw [strip]
  split
  ·simp
  ·simp; omega
theorem strip_take (l : List Int) : strip l = l.take (strip l).length := by
 induction l with
 | nil => rfl
 | cons x l ih =>
  rw [strip]
  split
  ·rfl
  ·simp; exact ih
def digits (v : Nat) : List Int := if v = 0 then [] else ((v % 4294967296 : Nat) : Int) :: digits (v / 4294967296)
termination_by v
decreasing_by omega
theorem zxa : digits 0 = [] := by rw [digits]; simp
theorem zyk (v : Nat) : Dig (digits v) := by
 induction v using Nat.strongRecOn with
 | ind v ih =>
  rw [digits]
  split
  ·exact Dig.nil
  ·exact Dig.cons xq (ih _ xq)
theorem zyj (v : Nat) : val (digits v) = v := by
 induction v using Nat.strongRecOn with
 | ind v ih =>
  rw [digits]
  split
  ·rename_i h; rw [h]; rfl
  ·simp only [val]; rw [ih _ xq]; omega
theorem zxh (v : Nat) : Norm (digits v) := by
 unfold Norm
 induction v using Nat.strongRecOn with
 | ind v ih =>
  rw [digits]
  split
  ·rfl
  ·rename_i h
   rw [strip, ih _ xq, if_neg]
   rintro ⟨h1, h2⟩
   have := zyj (v / 4294967296)
   rw [h1] at this
   simp [val] at this
   omega
theorem norm_tail {x : Int} {l : List Int} (h : Norm (x :: l)) : Norm l := by
 unfold Norm at h ⊢
 rw [strip] at h
 split at h
 ·cases h
 ·injection h
theorem norm_eq {l : List Int} (hd : Dig l) (hn : Norm l) : l = digits (val l).toNat := by
 induction l with
 | nil => simp [val, zxa]
 | cons x l ih =>
  have h0 := hd.head
  have h1 := zxc hd.tail
  have e := ih hd.tail (norm_tail hn)
  have hne : ¬ (x + 4294967296 * val l).toNat = 0 := by
   intro h
   have hx : x = 0 := by omega
   have hv : val l = 0 := by omega
   have hl : l = [] := by rw [e, hv]; exact zxa
   unfold Norm at hn
   rw [hl, hx] at hn
   simp [strip] at hn
  simp only [val]
  rw [digits, if_neg hne]
  have a1 : (((x + 4294967296 * val l).toNat % 4294967296 : Nat) : Int) = x := by omega
  have a2 : (x + 4294967296 * val l).toNat / 4294967296 = (val l).toNat := by omega
  rw [a1, a2, ← e]
theorem zxn {l : List Int} (hd : Dig l) : strip l = digits (val l).toNat := by
 rw [norm_eq (strip_dig hd) (strip_norm l), zwh]
theorem digits_length_le {v n : Nat} (h : (v : Int) < pw n) : (digits v).length ≤ n := by
 induction n generalizing v with
 | zero => simp [pw] at h; have : v = 0 := by omega
           rw [this, zxa]; exact Nat.le_refl _
 | succ n ih =>
  rw [digits]
  split
  ·simp
  ·simp only [List.length_cons]
   have := ih (v := v / 4294967296) (by rw [pw] at h; omega)
   omega
theorem zwi {v : Nat} (h : 0 < v) : 0 < (digits v).length := by rw [digits, if_neg xq]; simp
end Go.Proofs.Ytdmpfhhhlhoeiaa.Nt
namespace Go.Proofs.Ytdmpfhhhlhoeiaa
open Go.RowKit
set_option linter.unusedVariables false

namespace Nt
theorem take_snoc (l : List Int) (k : Nat) (h : k < l.length) : l.take (k + 1) = l.take k ++ [l[k]?.getD 0] := by
 rw [List.take_succ_eq_append_getElem h, List.getElem?_eq_getElem h]; rfl
end Nt
namespace Nt
theorem len_lt {x y : List Int} (hx : Dig x) (hy : Dig y) (ny : Norm y) (h : x.length < y.length) : val x < val y := by
 have h1 := val_lt hx
 have h2 := norm_eq hy ny
 rcases Int.lt_or_le (val y) (pw x.length) with h3 | h3
 ·have h4 := digits_length_le (v := (val y).toNat) (n := x.length) (by have := zxc hy; omega)
  rw [← h2] at h4
  omega
 ·omega
end Nt
end Go.Proofs.Ytdmpfhhhlhoeiaa
namespace Go.Proofs.Ytdmpfhhhlhoeiaa
open Go.RowKit
set_option linter.unusedVariables false

def NatF (w0 w : World) (A : Option Addr) (n c v : Nat) : Prop := n = (Nt.digits v).length ∧ SlR .u32 w A n c (Nt.digits v) ∧ (0 < n → ∃ a, A = some a ∧ w0.heap.size ≤ a.block ∧ TyB w a.block 119)
namespace Nt
end Nt
theorem zxx {w0 w : World} {g m : Nat} {l : List Int} (hk : KBlk .u32 w g 119 l) (hl : l.length = m) (hm : m ≤ maxLen) (hd : Nt.Dig l) (hg : w0.heap.size ≤ g) : NatF w0 w (some ⟨g, 0, none⟩) (Nt.strip l).length m (Nt.val l).toNat := by
 have e := Nt.zxn hd
 refine ⟨by rw [e], ?_, fun _ => ⟨_, rfl, hg, hk.ty⟩⟩
 rw [← e]
 have h := hk.slr (n := (Nt.strip l).length) (c := m) (Nt.zyi l) (by rw [← hl]; exact Nt.zyi l) hm
 rwa [← Nt.strip_take] at h

namespace Nt
end Nt


namespace Nt
end Nt
end Go.Proofs.Ytdmpfhhhlhoeiaa
namespace Go.Proofs
set_option linter.unusedVariables false
open Go.Shelf
end Go.Proofs
namespace Go.Proofs.Ytdmpfhhhlhoeiaa
open Go.RowKit

end Go.Proofs.Ytdmpfhhhlhoeiaa
namespace Go.Proofs.Ytdmpfhhhlhoeiaa
open Go.RowKit
set_option linter.unusedVariables false
namespace Nt
theorem p2_pos (s : Nat) : (0 : Int) < 2 ^ s := Int.pow_pos xw
end Nt

namespace Nt
theorem val_drop {l : List Int} {i : Nat} (h : i < l.length) : val (l.drop i) = l[i]?.getD 0 + 4294967296 * val (l.drop (i + 1)) := by
 rw [List.drop_eq_getElem_cons h, val, List.getElem?_eq_getElem h]; rfl
theorem val_drop_set {l : List Int} {i : Nat} (x : Int) (h : i < l.length) : val ((l.set i x).drop i) = x + 4294967296 * val (l.drop (i + 1)) := by
 rw [val_drop (by simpa using h)]
 simp [h, List.drop_set]
theorem zwg {l : List Int} {i : Nat} (h : l.length ≤ i) : val (l.drop i) = 0 := by rw [List.drop_of_length_le h]; rfl
end Nt

end Go.Proofs.Ytdmpfhhhlhoeiaa
namespace Go.Proofs.Ytdmpfhhhlhoeiaa.Nt
set_option linter.unusedVariables false

theorem guess_le {Q V U P a b c : Int} {Vl Ul : Int} (hP : 0 < P) (ha : 0 < a) (hV : V = a * P + Vl) (hVl : 0 ≤ Vl) (hVl' : Vl < P) (hU : U = b * P + Ul) (hUl : 0 ≤ Ul) (hQ : 0 ≤ Q) (hQc : Q ≤ c) (hca : c ≤ a) (h : Q * a ≤ b) : Q * V < U + V := by
 have h1 : Q * a * P ≤ b * P := Int.mul_le_mul_of_nonneg_right h xq
 have h2 : Q * Vl ≤ c * Vl := Int.mul_le_mul_of_nonneg_right hQc hVl
 have h3 : c * Vl ≤ a * Vl := Int.mul_le_mul_of_nonneg_right hca hVl
 have h4 : a * Vl < a * P := Int.mul_lt_mul_of_pos_left hVl' xq
 rw [hV, Int.mul_add, ← Int.mul_assoc]
 omega
structure Guess (T top v1 v2 u2 q r : Int) : Prop where
 sum : top = q * v1 + r
 q0 : 0 ≤ q
 r0 : 0 ≤ r
 ge : T ≤ q
structure Good (T top v1 v2 u2 q : Int) : Prop where
 q0 : 0 ≤ q
 q1 : q < 4294967296
 ge : T ≤ q
 le : q * (v1 * 4294967296 + v2) ≤ top * 4294967296 + u2
theorem Guess.good {T top v1 v2 u2 q r : Int} (h : Guess T top v1 v2 u2 q r) (hq : q < 4294967296) (ht : q * v2 ≤ r * 4294967296 + u2) : Good T top v1 v2 u2 q := by
 refine ⟨h.q0, hq, h.ge, ?_⟩
 have := h.sum
 rw [this]
 grind
theorem Guess.next {T top v1 v2 u2 q r : Int} (h : Guess T top v1 v2 u2 q r) (hT0 : 0 ≤ T) (hT : T < 4294967296) (hTle : T * (v1 * 4294967296 + v2) ≤ top * 4294967296 + u2) (hv1 : 0 ≤ v1) (ha : 0 < v1 * 4294967296 + v2) (ht : 4294967296 ≤ q ∨ r * 4294967296 + u2 < q * v2) : Guess T top v1 v2 u2 (q - 1) (r + v1) := by
 have hlt : T < q := by
  rcases ht with ht | ht
  ·omega
  ·have : T * (v1 * 4294967296 + v2) < q * (v1 * 4294967296 + v2) := by
    have e := h.sum
    rw [e] at hTle
    have : q * (v1 * 4294967296 + v2) = q * v1 * 4294967296 + q * v2 := by grind
    rw [this]
    have : (q * v1 + r) * 4294967296 + u2 = q * v1 * 4294967296 + r * 4294967296 + u2 := by grind
    omega
   exact Int.lt_of_mul_lt_mul_right this xq
 have := h.r0
 exact ⟨by rw [h.sum]; grind, by omega, by omega, by omega⟩
theorem Guess.start {T top v1 v2 u2 : Int} (htop0 : 0 ≤ top) (hv1 : 0 < v1) (hT0 : 0 ≤ T) (hTle : T * (v1 * 4294967296 + v2) ≤ top * 4294967296 + u2) (h20 : 0 ≤ v2) (hu : u2 < 4294967296) : Guess T top v1 v2 u2 (top / v1) (top % v1) := by
 have e := Int.mul_ediv_add_emod top v1
 have m0 := Int.emod_nonneg top (b := v1) xq
 have m1 := Int.emod_lt_of_pos top hv1
 refine ⟨by rw [Int.mul_comm]; omega, Int.ediv_nonneg htop0 xq, m0, ?_⟩
 have h1 : T * v1 ≤ top := by
  have : T * v1 * 4294967296 < (top + 1) * 4294967296 := by
   have e2 : T * (v1 * 4294967296 + v2) = T * v1 * 4294967296 + T * v2 := by grind
   have := Int.mul_nonneg hT0 h20
   omega
  have := Int.lt_of_mul_lt_mul_right this xq
  omega
 exact (Int.le_ediv_iff_mul_le hv1).2 h1
theorem ms_step {M u v : List Int} {i : Nat} {q cr bo p t : Int} (hi : i < M.length) (h : valTo M i + q * valTo v i = valTo u i + (cr + bo) * pw i) (hM : M[i]?.getD 0 = u[i]?.getD 0) (hp : p = q * v[i]?.getD 0 + cr) (ht : t = M[i]?.getD 0 - p % 4294967296 - bo) (h0 : -4294967296 ≤ t) (h1 : t < 4294967296) :
  valTo (M.set i (t % 4294967296)) (i + 1) + q * valTo v (i + 1) = valTo u (i + 1) + (p / 4294967296 + (if t < 0 then 1 else 0)) * pw (i + 1) := by
 rw [zxg M _ hi, zyg, zyg, pw]
 have e : t % 4294967296 = t + 4294967296 * (if t < 0 then 1 else 0) := by split <;> omega
 rw [e]
 have e2 := Int.mul_ediv_add_emod p 4294967296
 generalize (if t < 0 then (1 : Int) else 0) = b at *
 generalize p % 4294967296 = r at *
 generalize p / 4294967296 = z at *
 rw [hM] at ht
 grind
end Go.Proofs.Ytdmpfhhhlhoeiaa.Nt
namespace Go.Proofs.Ytdmpfhhhlhoeiaa.Nt
set_option linter.unusedVariables false

theorem Good.end {T top v1 v2 u2 q U V P Vl Ul : Int} (g : Good T top v1 v2 u2 q) (hP : 0 < P) (hV : V = (v1 * 4294967296 + v2) * P + Vl) (hVl : 0 ≤ Vl) (hVl' : Vl < P) (hU : U = (top * 4294967296 + u2) * P + Ul) (hUl : 0 ≤ Ul) (hv1 : 1 ≤ v1) (hv2 : 0 ≤ v2) (hT : U < (T + 1) * V) (hVp : 0 < V) :
  -V < U - q * V ∧ U - q * V < V := by
 have h1 := guess_le (c := 4294967296) hP (a := v1 * 4294967296 + v2) xq hV hVl hVl' hU hUl g.q0 (by have := g.q1; omega) xq g.le
 refine ⟨by omega, ?_⟩
 have h2 : (T + 1) * V ≤ (q + 1) * V := Int.mul_le_mul_of_nonneg_right (by have := g.ge; omega) xq
 have e : (q + 1) * V = q * V + V := by rw [Int.add_mul, Int.one_mul]
 omega
theorem ab_step {M R v : List Int} {i : Nat} {c t : Int} (hi : i < R.length) (h : valTo R i + c * pw i = valTo M i + valTo v i) (hR : R[i]?.getD 0 = M[i]?.getD 0) (ht : t = R[i]?.getD 0 + v[i]?.getD 0 + c) :
  valTo (R.set i (t % 4294967296)) (i + 1) + (t / 4294967296) * pw (i + 1) = valTo M (i + 1) + valTo v (i + 1) := by
 rw [zxg R _ hi, zyg, zyg, pw]
 have e := Int.mul_ediv_add_emod t 4294967296
 generalize t % 4294967296 = r at *
 generalize t / 4294967296 = q at *
 rw [hR] at ht
 grind
theorem ms_end0 {X U V Ul q cr bo t P uN : Int} (h : X + q * V = Ul + (cr + bo) * P) (hU : U = Ul + P * uN) (ht : t = uN - cr - bo) : X + P * t = U - q * V := by
 rw [ht, hU]; grind
theorem ab_end {X Y V W P t c : Int} (hP : 0 < P) (h : Y + c * P = X + V) (hw : W = X + P * t) (hY0 : 0 ≤ Y) (hY1 : Y < P) (hW0 : 0 ≤ W + V) (hW1 : W + V < P) : c + t = 0 ∧ Y = W + V := by
 have e : W + V = Y + P * (c + t) := by rw [hw]; grind
 have h1 : c + t = 0 := by
  rcases Int.lt_trichotomy (c + t) 0 with h | h | h
  ·have : P * (c + t) ≤ P * (-1) := Int.mul_le_mul_of_nonneg_left xq xq
   omega
  ·exact h
  ·have : P * 1 ≤ P * (c + t) := Int.mul_le_mul_of_nonneg_left xq xq
   omega
 rw [h1] at e
 exact ⟨h1, by omega⟩
theorem drop_set {l : List Int} {j i : Nat} (x : Int) : (l.set (j + i) x).drop j = (l.drop j).set i x := by
 rw [List.drop_set]; simp [show ¬ j + i < j by omega]
theorem zxe (l : List Int) (j i : Nat) : (l.drop j)[i]?.getD 0 = l[j + i]?.getD 0 := by rw [List.getElem?_drop]
theorem zxr (l : List Int) (n : Nat) : val l = valTo l n + pw n * val (l.drop n) := by
 rcases Nat.lt_or_ge n l.length with h | h
 ·exact val_split l n xq
 ·rw [zyh l h, List.drop_of_length_le h]; simp [val]
theorem val_low {l : List Int} (d : Dig l) {n : Nat} (h : val l < pw n) : val (l.drop n) = 0 ∧ valTo l n = val l := by
 have e := zxr l n
 have h0 := zxc (d.drop n)
 have h1 := zyy d n
 have hp := pw_pos n
 have hz : val (l.drop n) = 0 := by
  rcases Int.lt_or_le 0 (val (l.drop n)) with h' | h'
  ·have : pw n * 1 ≤ pw n * val (l.drop n) := Int.mul_le_mul_of_nonneg_left xq xq
   omega
  ·omega
 rw [hz] at e
 exact ⟨hz, by omega⟩
end Go.Proofs.Ytdmpfhhhlhoeiaa.Nt
namespace Go.Proofs.Ytdmpfhhhlhoeiaa
open Go.RowKit
set_option linter.unusedVariables false

structure Only (g : Nat) (w w' : World) : Prop where
 below : Below g w w'
 size : w'.heap.size = w.heap.size
 block : ∀ b, b ≠ g → w'.heap[b]? = w.heap[b]?
theorem Only.refl (g : Nat) (w : World) : Only g w w := ⟨Below.refl _ _, rfl, fun _ _ => rfl⟩
theorem Only.drewN (g : Nat) (w : World) (q : Nat) : Only g w (w.drewN q) := ⟨⟨rfl, rfl, rfl, Nat.le_refl _, fun _ _ => rfl⟩, rfl, fun _ _ => rfl⟩
theorem Only.trans {g : Nat} {w w1 w2 : World} (h : Only g w w1) (k : Only g w1 w2) : Only g w w2 := ⟨h.below.trans k.below, k.size.trans h.size, fun b hb => (k.block b hb).trans (h.block b hb)⟩
theorem Only.setCell {g : Nat} {w w1 : World} (h : Only g w w1) (i : Nat) (u : Value) : Only g w (w1.setCell ⟨g, i, none⟩ u) :=
 ⟨h.below.setCell (p := ⟨g, i, none⟩) (Nat.le_refl _) u, by have := h.size; simpa [World.setCell] using this, fun b hb => (Below.heap_setCell w1 ⟨g, i, none⟩ u b hb).trans (h.block b hb)⟩
theorem KBlk.only {k : IntKind} {w w' : World} {g b : Nat} {t : TypeId} {l : List Int} (h : KBlk k w b t l) (ho : Only g w w') (hb : b ≠ g) : KBlk k w' b t l := (ho.block b hb).trans h
theorem Below.only {B g : Nat} {w w1 w2 : World} (h : Below B w w1) (k : Only g w1 w2) (hg : B ≤ g) : Below B w w2 :=
 ⟨k.below.os.trans h.os, k.below.tape.trans h.tape, k.below.output.trans h.output, by have := h.size; have := k.size; omega, fun b hb => (k.block b xq).trans (h.block b hb)⟩

namespace Nt
end Nt
namespace Nt
structure DivFacts (j n : Nat) (L v : List Int) (top u2 v1 v2 : Int) : Prop where
 vp : 0 < val v
 eU : valTo (L.drop j) (n + 3) = (top * 4294967296 + u2) * pw n + valTo (L.drop j) n
 eV : val v = (v1 * 4294967296 + v2) * pw n + valTo v n
 t0 : 0 ≤ valTo (L.drop j) (n + 3) / val v
 t1 : valTo (L.drop j) (n + 3) / val v < 4294967296
 tU : valTo (L.drop j) (n + 3) < (valTo (L.drop j) (n + 3) / val v + 1) * val v
 tb : top < v1 * 4294967296 + 4294967296
 ta : (valTo (L.drop j) (n + 3) / val v) * (v1 * 4294967296 + v2) ≤ top * 4294967296 + u2
end Nt
def DigitF (w0 w : World) (g j N : Nat) (L v : List Int) (q : Int) : Prop := ∃ L', KBlk .u32 w g 119 L' ∧ L'.length = L.length ∧ Nt.Dig L' ∧ (∀ k, k < j ∨ j + N + 1 ≤ k → L'[k]? = L[k]?) ∧ 0 ≤ q ∧ q < 4294967296 ∧ Nt.valTo (L.drop j) (N + 1) = q * Nt.val v + Nt.valTo (L'.drop j) (N + 1) ∧ Nt.valTo (L'.drop j) (N + 1) < Nt.val v ∧ Only g w0 w

def DigW (w' w : World) (g gv : Nat) (L v : List Int) : Prop := KBlk .u32 w' g 119 L ∧ KBlk .u32 w' gv 119 v ∧ Only g w w'
structure DigS (wr w : World) (g gv j n i : Nat) (L v S : List Int) (q cr bo : Int) : Prop where
 ku : KBlk .u32 wr g 119 S
 kv : KBlk .u32 wr gv 119 v
 only : Only g w wr
 len : S.length = L.length
 dig : Nt.Dig S
 sum : Nt.valTo (S.drop j) i + q * Nt.valTo v i = Nt.valTo (L.drop j) i + (cr + bo) * Nt.pw i
 same : ∀ k, k < j ∨ j + i ≤ k → S[k]? = L[k]?
theorem DigS.next {wr w : World} {g gv j n i : Nat} {L v S : List Int} {q cr bo d x p t : Int} (h : DigS wr w g gv j n i L v S q cr bo) (hne : gv ≠ g) (hj : j + (n + 2) + 1 ≤ L.length) (hi : i < n + 2) (hd : d = v[i]?.getD 0) (hx : x = S[j + i]?.getD 0) (hp : p = q * d + cr) (ht : t = x - p % 4294967296 - bo) (t0 : -4294967296 ≤ t) (t1 : t < 4294967296) :
  DigS (wr.setCell ⟨g, j + i, none⟩ (.int .u32 (t % 4294967296))) w g gv j n (i + 1) L v (S.set (j + i) (t % 4294967296)) q (p / 4294967296) (if t < 0 then 1 else 0) := by
 refine ⟨h.ku.set _ _, h.kv.far (p := ⟨g, j + i, none⟩) hne _, h.only.setCell _ _, by rw [List.length_set]; exact h.len, h.dig.set _ xq, ?_, ?_⟩
 ·rw [Nt.drop_set]
  refine Nt.ms_step (M := S.drop j) (u := L.drop j) (v := v) (p := p) (t := t) (by have := h.len; simp; omega) h.sum ?_ (by rw [← hd]; exact hp) (by rw [Nt.zxe, ← hx]; exact ht) t0 t1
  rw [Nt.zxe, Nt.zxe, h.same (j + i) (.inr (Nat.le_refl _))]
 ·intro k hk
  rw [List.getElem?_set_ne xq]
  exact h.same k xq
structure DigA (wr w : World) (g gv j n i : Nat) (M v R : List Int) (c : Int) : Prop where
 ku : KBlk .u32 wr g 119 R
 kv : KBlk .u32 wr gv 119 v
 only : Only g w wr
 len : R.length = M.length
 dig : Nt.Dig R
 sum : Nt.valTo (R.drop j) i + c * Nt.pw i = Nt.valTo (M.drop j) i + Nt.valTo v i
 same : ∀ k, k < j ∨ j + i ≤ k → R[k]? = M[k]?
theorem DigA.next {wr w : World} {g gv j n i : Nat} {M v R : List Int} {c d x t : Int} (h : DigA wr w g gv j n i M v R c) (hne : gv ≠ g) (hj : j + (n + 2) + 1 ≤ M.length) (hi : i < n + 2) (hd : d = v[i]?.getD 0) (hx : x = R[j + i]?.getD 0) (ht : t = x + d + c) :
  DigA (wr.setCell ⟨g, j + i, none⟩ (.int .u32 (t % 4294967296))) w g gv j n (i + 1) M v (R.set (j + i) (t % 4294967296)) (t / 4294967296) := by
 refine ⟨h.ku.set _ _, h.kv.far (p := ⟨g, j + i, none⟩) hne _, h.only.setCell _ _, by rw [List.length_set]; exact h.len, h.dig.set _ xq, ?_, ?_⟩
 ·rw [Nt.drop_set]
  refine Nt.ab_step (M := M.drop j) (R := R.drop j) (v := v) (t := t) (by have := h.len; simp; omega) h.sum ?_ (by rw [Nt.zxe, ← hx, ← hd]; exact ht)
  rw [Nt.zxe, Nt.zxe, h.same (j + i) (.inr (Nat.le_refl _))]
 ·intro k hk
  rw [List.getElem?_set_ne xq]
  exact h.same k xq
theorem DigS.done {wr w : World} {g gv j n : Nat} {L v S : List Int} {q cr bo u0 t T top v1 v2 u2 : Int} (h : DigS wr w g gv j n (n + 2) L v S q cr bo) (hj : j + (n + 2) + 1 ≤ L.length) (hv : v.length = n + 2) (dv : Nt.Dig v) (dL : Nt.Dig L) (hu : u0 = L[j + (n + 2)]?.getD 0) (ht : t = u0 - cr - bo) (t0 : 0 ≤ t) (t1 : t < 4294967296) (q0 : 0 ≤ q) (q1 : q < 4294967296) (hF : Nt.DivFacts j n L v top u2 v1 v2) (hT : T = Nt.valTo (L.drop j) (n + 3) / Nt.val v) (hG : Nt.Good T top v1 v2 u2 q) (h1 : 1 ≤ v1) (h2 : 0 ≤ v2) :
  DigitF w (wr.setCell ⟨g, j + (n + 2), none⟩ (.int .u32 t)) g j (n + 2) L v q := by
 have hs := h.sum
 rw [Nt.zyh v xq] at hs
 have e : Nt.valTo ((S.set (j + (n + 2)) t).drop j) (n + 2 + 1) = Nt.valTo (L.drop j) (n + 2 + 1) - q * Nt.val v := by
  rw [Nt.drop_set, Nt.zxg _ _ (by have := h.len; simp; omega)]
  refine Nt.ms_end0 (Ul := Nt.valTo (L.drop j) (n + 2)) (uN := u0) hs ?_ ht
  rw [Nt.zyg, Nt.zxe, ← hu]
 have hend := hG.end (Nt.pw_pos n) hF.eV (Nt.zyy dv n) (Nt.zxm dv n) hF.eU (Nt.zyy (dL.drop j) n) h1 h2 (by rw [hT]; exact hF.tU) hF.vp
 refine ⟨_, h.ku.set _ _, by rw [List.length_set]; exact h.len, h.dig.set _ ⟨t0, t1⟩, ?_, q0, q1, ?_, ?_, h.only.setCell _ _⟩
 ·intro k hk
  rw [List.getElem?_set_ne xq]
  exact h.same k xq
 ·rw [e]; omega
 ·rw [e]; exact hend.2
theorem DigA.done {wr w wr0 : World} {g gv j n : Nat} {L v S R : List Int} {q cr bo u0 t c T top v1 v2 u2 : Int} (h0 : DigS wr0 w g gv j n (n + 2) L v S q cr bo) (h : DigA wr w g gv j n (n + 2) (S.set (j + (n + 2)) (t % 4294967296)) v R c) (hj : j + (n + 2) + 1 ≤ L.length) (hv : v.length = n + 2) (dv : Nt.Dig v) (dL : Nt.Dig L) (hu : u0 = L[j + (n + 2)]?.getD 0) (ht : t = u0 - cr - bo) (t0 : t < 0) (t1 : -4294967296 ≤ t) (q0 : 0 ≤ q) (q1 : q < 4294967296) (hF : Nt.DivFacts j n L v top u2 v1 v2) (hT : T = Nt.valTo (L.drop j) (n + 3) / Nt.val v) (hG : Nt.Good T top v1 v2 u2 q) (h1 : 1 ≤ v1) (h2 : 0 ≤ v2) :
  R[j + (n + 2)]?.getD 0 = t % 4294967296 ∧ 1 ≤ q ∧ (t % 4294967296 + c) % 4294967296 = 0 ∧ DigitF w (wr.setCell ⟨g, j + (n + 2), none⟩ (.int .u32 0)) g j (n + 2) L v (q - 1) := by
 have hs := h0.sum
 have ha := h.sum
 rw [Nt.zyh v xq] at hs ha
 have e : Nt.valTo (S.drop j) (n + 2) + Nt.pw (n + 2) * t = Nt.valTo (L.drop j) (n + 2 + 1) - q * Nt.val v := by
  refine Nt.ms_end0 (Ul := Nt.valTo (L.drop j) (n + 2)) (uN := u0) hs ?_ ht
  rw [Nt.zyg, Nt.zxe, ← hu]
 have hend := hG.end (Nt.pw_pos n) hF.eV (Nt.zyy dv n) (Nt.zxm dv n) hF.eU (Nt.zyy (dL.drop j) n) h1 h2 (by rw [hT]; exact hF.tU) hF.vp
 have hU0 := Nt.zyy (dL.drop j) (n + 2 + 1)
 rw [show n + 3 = n + 2 + 1 by omega] at hend
 have hX := Nt.zxm (h0.dig.drop j) (n + 2)
 have hP := Nt.pw_pos (n + 2)
 have hVP := Nt.val_lt dv
 rw [hv] at hVP
 have hneg : Nt.valTo (L.drop j) (n + 2 + 1) - q * Nt.val v < 0 := by
  have : Nt.pw (n + 2) * t ≤ Nt.pw (n + 2) * (-1) := Int.mul_le_mul_of_nonneg_left xq xq
  omega
 have hq1 : 1 ≤ q := by
  rcases (show q = 0 ∨ 1 ≤ q by omega) with hq | hq
  ·rw [hq] at hneg; omega
  ·exact hq
 have hsl : Nt.valTo ((S.set (j + (n + 2)) (t % 4294967296)).drop j) (n + 2) = Nt.valTo (S.drop j) (n + 2) := by rw [Nt.drop_set, Nt.valTo_set_lt _ _ (Nat.le_refl _)]
 rw [hsl] at ha
 have hlen : (S.set (j + (n + 2)) (t % 4294967296)).length = L.length := by rw [List.length_set]; exact h0.len
 obtain ⟨k1, k2⟩ := Nt.ab_end hP ha e.symm (Nt.zyy (h.dig.drop j) (n + 2)) (Nt.zxm (h.dig.drop j) (n + 2)) (by have := hend.1; omega) xq
 refine ⟨?_, hq1, by omega, _, h.ku.set _ _, by rw [List.length_set, h.len, hlen], h.dig.set _ xq, ?_, by omega, by omega, ?_, ?_, h.only.setCell _ _⟩
 ·rw [h.same _ (.inr (Nat.le_refl _))]
  simp [show j + (n + 2) < S.length by have := h0.len; omega]
 ·intro k hk
  rw [List.getElem?_set_ne xq, h.same k xq, List.getElem?_set_ne xq]
  exact h0.same k xq
 ·rw [Nt.drop_set, Nt.zxg _ _ (by rw [List.length_drop, h.len, hlen]; omega), k2, Int.sub_mul]; omega
 ·rw [Nt.drop_set, Nt.zxg _ _ (by rw [List.length_drop, h.len, hlen]; omega), k2]; omega
theorem DigW.drewN {w' w : World} {g gv : Nat} {L v : List Int} (h : DigW w' w g gv L v) (k : Nat) : DigW (w'.drewN k) w g gv L v := ⟨h.1, h.2.1, h.2.2.trans (Only.drewN _ _ _)⟩
end Go.Proofs.Ytdmpfhhhlhoeiaa
namespace Go.Proofs.Ytdmpfhhhlhoeiaa
open Go.RowKit
set_option linter.unusedVariables false
namespace Nt
theorem div_of {a b q r : Int} (hb : 0 < b) (h : a = q * b + r) (r0 : 0 ≤ r) (r1 : r < b) : a / b = q ∧ a % b = r := by
 have e : a = r + b * q := by rw [h, Int.mul_comm]; omega
 constructor
 ·rw [e, Int.add_mul_ediv_left _ _ xq, Int.ediv_eq_zero_of_lt r0 r1]; omega
 ·rw [e, Int.add_mul_emod_self_left, Int.emod_eq_of_lt r0 r1]
end Nt
theorem NatF.below {w0 w w' : World} {A : Option Addr} {n c v : Nat} (h : NatF w0 w A n c v) (hb : Below w.heap.size w w') : NatF w0 w' A n c v := ⟨h.1, h.2.1.below hb, fun hp => by obtain ⟨a, e, k, t⟩ := h.2.2 hp; exact ⟨a, e, k, t.below hb⟩⟩
def DivF (w0 w : World) (e : Ending) (a b : Int) : Prop := ∃ A1 n1 c1 A2 n2 c2, e = .returned (.tuple #[.slice A1 n1 c1, .slice A2 n2 c2]) ∧ NatF w0 w A1 n1 c1 (a / b).toNat ∧ NatF w0 w A2 n2 c2 (a % b).toNat ∧ Below w0.heap.size w0 w
namespace Nt
structure DivL (i N : Nat) (A V : Int) (U Q : List Int) : Prop where
 dU : Dig U
 dQ : Dig Q
 sum : A = val (Q.drop i) * pw i * V + val U
 low : val (U.drop i) < V
theorem DivL.start {a u v Q : List Int} {i N : Nat} {A : Int} (du : Dig u) (dQ : Dig Q) (hQ : Q.length ≤ i) (hA : A = val u) (hl : val (u.drop i) < val v) : DivL i N A (val v) u Q :=
 ⟨du, dQ, by rw [zwg hQ, hA]; simp, hl⟩
theorem DivL.pre {j N : Nat} {A : Int} {U Q v : List Int} (h : DivL (j + 1) N A (val v) U Q) (hj : j < U.length) (hv : v.length = N + 2) (dv : Dig v) : valTo (U.drop j) (N + 3) < 4294967296 * val v := by
 have h1 := val_drop (l := U) hj
 have h2 := h.low
 have h3 := h.dU.at j
 have h4 := val_lt dv
 have e := zxr (U.drop j) (N + 3)
 have h5 := zxc ((h.dU.drop j).drop (N + 3))
 have hp := pw_pos (N + 3)
 have : 0 ≤ pw (N + 3) * val ((U.drop j).drop (N + 3)) := Int.mul_nonneg xq h5
 omega
theorem drop_same {U U' : List Int} {j : Nat} (hl : U'.length = U.length) (h : ∀ k, j ≤ k → U'[k]? = U[k]?) : U'.drop j = U.drop j := by
 apply List.ext_getElem?
 intro k
 rw [List.getElem?_drop, List.getElem?_drop]
 exact h _ xq
theorem take_same {U U' : List Int} {j : Nat} (h : ∀ k, k < j → U'[k]? = U[k]?) : U'.take j = U.take j := by
 apply List.ext_getElem?
 intro k
 rcases Nat.lt_or_ge k j with hk | hk
 ·rw [List.getElem?_take_of_lt hk, List.getElem?_take_of_lt hk]; exact h k hk
 ·rw [List.getElem?_take_eq_none hk, List.getElem?_take_eq_none hk]
theorem DivL.next {j N : Nat} {A q : Int} {U U' Q v : List Int} (h : DivL (j + 1) N A (val v) U Q) (hj : j < U.length) (hjQ : j < Q.length) (hv : v.length = N + 2) (dv : Dig v) (hl : U'.length = U.length) (dU' : Dig U') (hs : ∀ k, k < j ∨ j + (N + 2) + 1 ≤ k → U'[k]? = U[k]?) (q0 : 0 ≤ q) (q1 : q < 4294967296) (he : valTo (U.drop j) (N + 3) = q * val v + valTo (U'.drop j) (N + 3)) (hlt : valTo (U'.drop j) (N + 3) < val v) :
  DivL j N A (val v) U' (Q.set j q) := by
 have e1 := zxr (U.drop j) (N + 3)
 have e2 := zxr (U'.drop j) (N + 3)
 rw [List.drop_drop] at e1 e2
 have e3 : U'.drop (j + (N + 3)) = U.drop (j + (N + 3)) := drop_same hl (fun k hk => hs k xq)
 rw [e3] at e2
 have e4 : val (U.drop (j + (N + 3))) = 0 := by
  have k1 : val (U.drop (j + 1)) < pw (N + 2) := by have := h.low; have := val_lt dv; rw [hv] at this; omega
  have k2 := (val_low (h.dU.drop (j + 1)) k1).1
  rw [List.drop_drop, show j + 1 + (N + 2) = j + (N + 3) by omega] at k2
  exact k2
 rw [e4] at e1 e2
 have e5 := zxr U j
 have e6 := zxr U' j
 have e7 : valTo U' j = valTo U j := by unfold valTo; rw [take_same (fun k hk => hs k (.inl hk))]
 refine ⟨dU', h.dQ.set _ ⟨q0, q1⟩, ?_, by omega⟩
 rw [val_drop_set _ hjQ, h.sum, e5, e6, e7, e1, e2, he, pw]
 grind
theorem div_end {a b z Q U : Int} (hz : 0 < z) (h : a * z = Q * (b * z) + U) (u0 : 0 ≤ U) (u1 : U < b * z) : a / b = Q ∧ a % b = U / z := by
 have hb : 0 < b := by
  rcases Int.lt_or_le 0 b with h' | h'
  ·exact h'
  ·have := Int.mul_nonpos_of_nonpos_of_nonneg h' (Int.le_of_lt hz); omega
 have e : U = (a - Q * b) * z := by grind
 have e2 : U / z = a - Q * b := by rw [e]; exact Int.mul_ediv_cancel _ xq
 have h0 : 0 ≤ a - Q * b := Int.nonneg_of_mul_nonneg_left xq hz
 have h1 : a - Q * b < b := by rw [e] at u1; exact Int.lt_of_mul_lt_mul_right u1 xq
 rw [e2]
 exact div_of hb xq h0 h1
end Nt
structure DivW (wr w : World) (gu gv gq i N n M : Nat) (A : Int) (v U Q : List Int) : Prop where
 ku : KBlk .u32 wr gu 119 U
 kv : KBlk .u32 wr gv 119 v
 kq : KBlk .u32 wr gq 119 Q
 lu : U.length = n + 1
 lq : Q.length = M
 d : Nt.DivL i N A (Nt.val v) U Q
 bel : Below w.heap.size w wr
theorem DivW.fin {wr w w6 : World} {gu gv gq N n M z gl : Nat} {a b v U Q SL : List Int} (h : DivW wr w gu gv gq 0 N n M (Nt.val a * 2 ^ z) v U Q) (hv : v.length = N + 2) (dv : Nt.Dig v) (ev : Nt.val v = Nt.val b * 2 ^ z) (hgw : w.heap.size ≤ gq) (hM : M ≤ 1000000000) (hn : n ≤ 1000000000) (hN : N + 2 ≤ n) (hb : Below wr.heap.size wr w6) (l1 : wr.heap.size ≤ gl) (l2 : KBlk .u32 w6 gl 119 SL) (l3 : SL.length = N + 2) (l4 : Nt.Dig SL) (l5 : Nt.val SL = Nt.val (U.take (N + 2)) / 2 ^ z) :
  DivF w w6 (.returned (.tuple #[.slice (some ⟨gq, 0, none⟩) (Nt.strip Q).length M, .slice (some ⟨gl, 0, none⟩) (Nt.strip SL).length (N + 2)])) (Nt.val a) (Nt.val b) := by
 have hlow := h.d.low
 have hsum := h.d.sum
 simp only [List.drop_zero, Nt.pw, Int.mul_one] at hlow hsum
 have hU0 := Nt.zxc h.d.dU
 have e1 : Nt.val (U.take (N + 2)) = Nt.val U := (Nt.val_low h.d.dU (n := N + 2) (by have := Nt.val_lt dv; rw [hv] at this; omega)).2
 have hb2 := h.bel.size
 obtain ⟨q1, q2⟩ := Nt.div_end (a := Nt.val a) (b := Nt.val b) (Q := Nt.val Q) (U := Nt.val U) (Nt.p2_pos z) (by rw [hsum, ev]) hU0 xq
 have f1 := zxx (w0 := w) (h.kq.below hb h.kq.lt) h.lq yq h.d.dQ hgw
 have f2 := zxx (w0 := w) l2 l3 yq l4 xq
 rw [l5, e1, ← q2] at f2
 rw [← q1] at f1
 exact ⟨_, _, _, _, _, _, rfl, f1, f2, h.bel.trans (hb.mono hb2)⟩
namespace Nt
end Nt
end Go.Proofs.Ytdmpfhhhlhoeiaa
namespace Go.Proofs.Ytdmpfhhhlhoeiaa.Nt
set_option linter.unusedVariables false

structure Leh (x y p0 q0 p q a b c d : Int) : Prop where
 ep : p = a * p0 + b * q0
 eq : q = c * p0 + d * q0
 sign : (0 ≤ a ∧ b ≤ 0 ∧ c ≤ 0 ∧ 0 ≤ d) ∨ (a ≤ 0 ∧ 0 ≤ b ∧ 0 ≤ c ∧ d ≤ 0)
 pa : 0 ≤ p + a
 pb : 0 ≤ p + b
 qc : 0 ≤ q + c
 qd : 0 ≤ q + d
 ba : -2147483647 ≤ a ∧ a ≤ 2147483647
 bb : -2147483647 ≤ b ∧ b ≤ 2147483647
 bc : -2147483647 ≤ c ∧ c ≤ 2147483647
 bd : -2147483647 ≤ d ∧ d ≤ 2147483647
 y0 : 0 ≤ c * x + d * y
 yx : c * x + d * y ≤ a * x + b * y
 xx : a * x + b * y ≤ x
 less : (a = 1 ∧ b = 0 ∧ c = 0 ∧ d = 1) ∨ c * x + d * y < y
 xy : (a = 1 ∧ b = 0 ∧ c = 0 ∧ d = 1) ∨ a * x + b * y ≤ y
 gcd : Int.gcd (a * x + b * y) (c * x + d * y) = Int.gcd x y
 pm : p ≤ 4611686018427387904
 qm : q ≤ 4611686018427387904

theorem Leh.start {x y p0 q0 : Int} (hy : 0 ≤ y) (hxy : y ≤ x) (hp : 0 ≤ p0) (hq : 0 ≤ q0) (hp' : p0 ≤ 4611686018427387904) (hq' : q0 ≤ 4611686018427387904) : Leh x y p0 q0 p0 q0 1 0 0 1 := by
 refine ⟨by omega, by omega, by omega, by omega, by omega, by omega, by omega, by omega, by omega, by omega, by omega, by omega, by omega, by omega, .inl ⟨rfl, rfl, rfl, rfl⟩, .inl ⟨rfl, rfl, rfl, rfl⟩, by simp, hp', hq'⟩
theorem Leh.p0 {x y p0 q0 p q a b c d : Int} (h : Leh x y p0 q0 p q a b c d) : 0 ≤ p := by
 have := h.pa; have := h.pb; rcases h.sign with s | s <;> omega
theorem Leh.q0 {x y p0 q0 p q a b c d : Int} (h : Leh x y p0 q0 p q a b c d) : 0 ≤ q := by
 have := h.qc; have := h.qd; rcases h.sign with s | s <;> omega

theorem fl {n m f : Int} (hm : 0 < m) (hf : f = n / m) : 0 ≤ n - f * m ∧ n - f * m < m := by
 have e := Int.mul_ediv_add_emod n m
 have h0 := Int.emod_nonneg n (b := m) xq
 have h1 := Int.emod_lt_of_pos n hm
 rw [hf, Int.mul_comm]; omega

theorem corner_ge {r e g K ex ey : Int} (hK : 0 ≤ K) (hx0 : 0 ≤ ex) (hx1 : ex ≤ K) (hy0 : 0 ≤ ey) (hy1 : ey ≤ K) (h : (0 ≤ e ∧ g ≤ 0 ∧ 0 ≤ r + g) ∨ (e ≤ 0 ∧ 0 ≤ g ∧ 0 ≤ r + e)) : 0 ≤ r * K + e * ex + g * ey := by
 rcases h with ⟨h1, h2, h3⟩ | ⟨h1, h2, h3⟩
 ·have a1 : 0 ≤ e * ex := Int.mul_nonneg h1 hx0
  have a2 : g * K ≤ g * ey := Int.mul_le_mul_of_nonpos_left h2 hy1
  have a3 : 0 ≤ (r + g) * K := Int.mul_nonneg h3 hK
  rw [Int.add_mul] at a3
  omega
 ·have a1 : 0 ≤ g * ey := Int.mul_nonneg h2 hy0
  have a2 : e * K ≤ e * ex := Int.mul_le_mul_of_nonpos_left h1 hx1
  have a3 : 0 ≤ (r + e) * K := Int.mul_nonneg h3 hK
  rw [Int.add_mul] at a3
  omega

theorem Leh.step {x y p0 q0 p q a b c d f K Z ex ey : Int} (h : Leh x y p0 q0 p q a b c d) (hK : 0 < K) (hZ : 0 < Z)
  (hx : x * Z = p0 * K + ex) (hx0 : 0 ≤ ex) (hx1 : ex < K) (hy : y * Z = q0 * K + ey) (hy0 : 0 ≤ ey) (hy1 : ey < K)
  (h1 : q + c ≠ 0) (h2 : q + d ≠ 0) (f1 : f = (p + a) / (q + c)) (f2 : f = (p + b) / (q + d))
  (be : -2147483647 ≤ a - f * c ∧ a - f * c ≤ 2147483647) (bg : -2147483647 ≤ b - f * d ∧ b - f * d ≤ 2147483647) :
  Leh x y p0 q0 q (p - f * q) c d (a - f * c) (b - f * d) ∧ (p - f * q) + (a - f * c) < q + c := by
 have u1 := fl (by have := h.qc; omega) f1
 have u2 := fl (by have := h.qd; omega) f2
 have f0 : 0 ≤ f := by rw [f1]; exact Int.ediv_nonneg h.pa h.qc
 have q0' := h.q0
 have hqm := h.qm
 have hpm := h.pm
 have e1 : (p - f * q) + (a - f * c) = (p + a) - f * (q + c) := by grind
 have e2 : (p - f * q) + (b - f * d) = (p + b) - f * (q + d) := by grind
 have s : (0 ≤ c ∧ d ≤ 0 ∧ a - f * c ≤ 0 ∧ 0 ≤ b - f * d) ∨ (c ≤ 0 ∧ 0 ≤ d ∧ 0 ≤ a - f * c ∧ b - f * d ≤ 0) := by
  rcases h.sign with ⟨s1, s2, s3, s4⟩ | ⟨s1, s2, s3, s4⟩
  ·have := Int.mul_nonpos_of_nonneg_of_nonpos f0 s3
   have := Int.mul_nonneg f0 s4
   omega
  ·have := Int.mul_nonpos_of_nonneg_of_nonpos f0 s4
   have := Int.mul_nonneg f0 s3
   omega
 -- the remainder is not negative
 have r0 : 0 ≤ (a - f * c) * x + (b - f * d) * y := by
  have k := corner_ge (r := p - f * q) (e := a - f * c) (g := b - f * d) (K := K) (ex := ex) (ey := ey) xq hx0 xq hy0 xq xq
  have e : (p - f * q) * K + (a - f * c) * ex + (b - f * d) * ey = ((a - f * c) * x + (b - f * d) * y) * Z := by
   have ex' : ex = x * Z - p0 * K := by omega
   have ey' : ey = y * Z - q0 * K := by omega
   rw [ex', ey', h.ep, h.eq]; grind
  rw [e] at k
  exact Int.nonneg_of_mul_nonneg_left k hZ
 -- and less than the divisor
 have r1 : (a - f * c) * x + (b - f * d) * y < c * x + d * y := by
  have k := corner_ge (r := -(p - f * q - q) - 1) (e := -(a - f * c - c)) (g := -(b - f * d - d)) (K := K) (ex := ex) (ey := ey) xq hx0 xq hy0 xq
   (by rcases s with s | s
       ·exact .inl ⟨by omega, by omega, by omega⟩
       ·exact .inr ⟨by omega, by omega, by omega⟩)
  have e : (-(p - f * q - q) - 1) * K + -(a - f * c - c) * ex + -(b - f * d - d) * ey = (c * x + d * y - ((a - f * c) * x + (b - f * d) * y)) * Z - K := by
   have ex' : ex = x * Z - p0 * K := by omega
   have ey' : ey = y * Z - q0 * K := by omega
   rw [ex', ey', h.ep, h.eq]; grind
  rw [e] at k
  have k' : 0 < (c * x + d * y - ((a - f * c) * x + (b - f * d) * y)) * Z := by omega
  rcases Int.lt_or_le 0 (c * x + d * y - ((a - f * c) * x + (b - f * d) * y)) with h' | h'
  ·omega
  ·have := Int.mul_nonpos_of_nonpos_of_nonneg h' (Int.le_of_lt hZ)
   omega
 refine ⟨⟨h.eq, by rw [h.ep, h.eq]; grind, s, h.qc, h.qd, by omega, by omega, h.bc, h.bd, be, bg, r0, by omega, ?_, ?_, ?_, ?_, hqm, ?_⟩, by omega⟩
 ·have := h.yx; have := h.xx; omega
 ·right
  rcases h.xy with ⟨_, _, rfl, rfl⟩ | hxy
  ·omega
  ·have := h.yx; omega
 ·right
  rcases h.less with ⟨_, _, rfl, rfl⟩ | hl
  ·omega
  ·omega
 ·rw [← h.gcd]
  have e : (a - f * c) * x + (b - f * d) * y = (a * x + b * y) - f * (c * x + d * y) := by grind
  rw [e, Int.gcd_comm, Int.sub_eq_add_neg, ← Int.neg_mul, Int.gcd_add_mul_right_left]
 ·have : 0 ≤ f * q := Int.mul_nonneg f0 q0'
  omega

end Go.Proofs.Ytdmpfhhhlhoeiaa.Nt
namespace Go.Proofs.Ytdmpfhhhlhoeiaa
open Go.RowKit
set_option linter.unusedVariables false
end Go.Proofs.Ytdmpfhhhlhoeiaa
namespace Go.Proofs.Ytdmpfhhhlhoeiaa
open Go.RowKit
set_option linter.unusedVariables false
namespace Nt
end Nt
theorem NatF.mono {w0 w1 w : World} {A : Option Addr} {n c v : Nat} (h : NatF w1 w A n c v) (hw : w0.heap.size ≤ w1.heap.size) : NatF w0 w A n c v :=
 ⟨h.1, h.2.1, fun hp => by obtain ⟨a, e, k, t⟩ := h.2.2 hp; exact ⟨a, e, by omega, t⟩⟩
namespace Nt
theorem zxf {x y : Nat} (h : y ≤ x) : (digits y).length ≤ (digits x).length := by
 rcases Nat.lt_or_ge (digits x).length (digits y).length with h' | h'
 ·have := len_lt (zyk x) (zyk y) (zxh y) h'
  rw [zyj, zyj] at this
  omega
 ·exact h'
end Nt
namespace Nt
end Nt
namespace Nt
end Nt
theorem OwnK.blk {k : IntKind} {w : World} {B : Nat} {t : TypeId} {A : Option Addr} {n c : Nat} {l : List Int} (h : OwnK k w B t A n c l) : ∀ a, A = some a → B ≤ a.block ∧ a.block < w.heap.size := by
 intro a ha
 rcases h.2.2 with ⟨he, _⟩ | ⟨g, cap, cur, he, hg, hh, _⟩
 ·injection he with e1; rw [e1] at ha; cases ha
 ·injection he with e1
  rw [e1] at ha
  injection ha with ha
  subst ha
  refine ⟨hg, ?_⟩
  rcases Nat.lt_or_ge g w.heap.size with hlt | hge
  ·exact hlt
  ·rw [Array.getElem?_eq_none hge] at hh; cases hh
namespace Nt
theorem Dig.snoc {l : List Int} (h : Dig l) {x : Int} (hx : 0 ≤ x ∧ x < 4294967296) : Dig (l ++ [x]) := h.append (Dig.cons hx Dig.nil)
end Nt
theorem Below.drewN' {B : Nat} {w w' : World} (h : Below B w w') (k : Nat) : Below B w (w'.drewN k) := ⟨h.os, h.tape, h.output, h.size, h.block⟩
namespace Nt
end Nt
namespace Nt
end Nt
namespace Nt
structure DigP (j n i : Nat) (L v S : List Int) (q cr bo : Int) : Prop where
 len : S.length = L.length
 dig : Dig S
 sum : valTo (S.drop j) i + q * valTo v i = valTo (L.drop j) i + (cr + bo) * pw i
 same : ∀ k, k < j ∨ j + i ≤ k → S[k]? = L[k]?
theorem DigP.next {j n i : Nat} {L v S : List Int} {q cr bo d x p t : Int} (h : DigP j n i L v S q cr bo) (hj : j + (n + 2) + 1 ≤ L.length) (hi : i < n + 2) (hd : d = v[i]?.getD 0) (hx : x = S[j + i]?.getD 0) (hp : p = q * d + cr) (ht : t = x - p % 4294967296 - bo) (t0 : -4294967296 ≤ t) (t1 : t < 4294967296) :
  DigP j n (i + 1) L v (S.set (j + i) (t % 4294967296)) q (p / 4294967296) (if t < 0 then 1 else 0) := by
 refine ⟨by rw [List.length_set]; exact h.len, h.dig.set _ xq, ?_, ?_⟩
 ·rw [drop_set]
  refine ms_step (M := S.drop j) (u := L.drop j) (v := v) (p := p) (t := t) (by have := h.len; simp; omega) h.sum ?_ (by rw [← hd]; exact hp) (by rw [zxe, ← hx]; exact ht) t0 t1
  rw [zxe, zxe, h.same (j + i) (.inr (Nat.le_refl _))]
 ·intro k hk
  rw [List.getElem?_set_ne xq]
  exact h.same k xq
structure DigQ (j n i : Nat) (M v R : List Int) (c : Int) : Prop where
 len : R.length = M.length
 dig : Dig R
 sum : valTo (R.drop j) i + c * pw i = valTo (M.drop j) i + valTo v i
 same : ∀ k, k < j ∨ j + i ≤ k → R[k]? = M[k]?
theorem DigQ.next {j n i : Nat} {M v R : List Int} {c d x t : Int} (h : DigQ j n i M v R c) (hj : j + (n + 2) + 1 ≤ M.length) (hi : i < n + 2) (hd : d = v[i]?.getD 0) (hx : x = R[j + i]?.getD 0) (ht : t = x + d + c) :
  DigQ j n (i + 1) M v (R.set (j + i) (t % 4294967296)) (t / 4294967296) := by
 refine ⟨by rw [List.length_set]; exact h.len, h.dig.set _ xq, ?_, ?_⟩
 ·rw [drop_set]
  refine ab_step (M := M.drop j) (R := R.drop j) (v := v) (t := t) (by have := h.len; simp; omega) h.sum ?_ (by rw [zxe, ← hx, ← hd]; exact ht)
  rw [zxe, zxe, h.same (j + i) (.inr (Nat.le_refl _))]
 ·intro k hk
  rw [List.getElem?_set_ne xq]
  exact h.same k xq
def DigR (j N : Nat) (L v L' : List Int) (q : Int) : Prop := L'.length = L.length ∧ Dig L' ∧ (∀ k, k < j ∨ j + N + 1 ≤ k → L'[k]? = L[k]?) ∧ 0 ≤ q ∧ q < 4294967296 ∧ valTo (L.drop j) (N + 1) = q * val v + valTo (L'.drop j) (N + 1) ∧ valTo (L'.drop j) (N + 1) < val v
theorem DigP.done {j n : Nat} {L v S : List Int} {q cr bo u0 t T top v1 v2 u2 : Int} (h : DigP j n (n + 2) L v S q cr bo) (hj : j + (n + 2) + 1 ≤ L.length) (hv : v.length = n + 2) (dv : Dig v) (dL : Dig L) (hu : u0 = L[j + (n + 2)]?.getD 0) (ht : t = u0 - cr - bo) (t0 : 0 ≤ t) (t1 : t < 4294967296) (q0 : 0 ≤ q) (q1 : q < 4294967296) (hF : DivFacts j n L v top u2 v1 v2) (hT : T = valTo (L.drop j) (n + 3) / val v) (hG : Good T top v1 v2 u2 q) (h1 : 1 ≤ v1) (h2 : 0 ≤ v2) :
  DigR j (n + 2) L v (S.set (j + (n + 2)) t) q := by
 have hs := h.sum
 rw [zyh v xq] at hs
 have e : valTo ((S.set (j + (n + 2)) t).drop j) (n + 2 + 1) = valTo (L.drop j) (n + 2 + 1) - q * val v := by
  rw [drop_set, zxg _ _ (by have := h.len; simp; omega)]
  refine ms_end0 (Ul := valTo (L.drop j) (n + 2)) (uN := u0) hs ?_ ht
  rw [zyg, zxe, ← hu]
 have hend := hG.end (pw_pos n) hF.eV (zyy dv n) (zxm dv n) hF.eU (zyy (dL.drop j) n) h1 h2 (by rw [hT]; exact hF.tU) hF.vp
 refine ⟨by rw [List.length_set]; exact h.len, h.dig.set _ ⟨t0, t1⟩, ?_, q0, q1, ?_, ?_⟩
 ·intro k hk
  rw [List.getElem?_set_ne xq]
  exact h.same k xq
 ·rw [e]; omega
 ·rw [e]; exact hend.2
theorem DigQ.done {j n : Nat} {L v S R : List Int} {q cr bo u0 t c T top v1 v2 u2 : Int} (h0 : DigP j n (n + 2) L v S q cr bo) (h : DigQ j n (n + 2) (S.set (j + (n + 2)) (t % 4294967296)) v R c) (hj : j + (n + 2) + 1 ≤ L.length) (hv : v.length = n + 2) (dv : Dig v) (dL : Dig L) (hu : u0 = L[j + (n + 2)]?.getD 0) (ht : t = u0 - cr - bo) (t0 : t < 0) (t1 : -4294967296 ≤ t) (q0 : 0 ≤ q) (q1 : q < 4294967296) (hF : DivFacts j n L v top u2 v1 v2) (hT : T = valTo (L.drop j) (n + 3) / val v) (hG : Good T top v1 v2 u2 q) (h1 : 1 ≤ v1) (h2 : 0 ≤ v2) :
  R[j + (n + 2)]?.getD 0 = t % 4294967296 ∧ 1 ≤ q ∧ (t % 4294967296 + c) % 4294967296 = 0 ∧ DigR j (n + 2) L v (R.set (j + (n + 2)) 0) (q - 1) := by
 have hs := h0.sum
 have ha := h.sum
 rw [zyh v xq] at hs ha
 have e : valTo (S.drop j) (n + 2) + pw (n + 2) * t = valTo (L.drop j) (n + 2 + 1) - q * val v := by
  refine ms_end0 (Ul := valTo (L.drop j) (n + 2)) (uN := u0) hs ?_ ht
  rw [zyg, zxe, ← hu]
 have hend := hG.end (pw_pos n) hF.eV (zyy dv n) (zxm dv n) hF.eU (zyy (dL.drop j) n) h1 h2 (by rw [hT]; exact hF.tU) hF.vp
 have hU0 := zyy (dL.drop j) (n + 2 + 1)
 rw [show n + 3 = n + 2 + 1 by omega] at hend
 have hX := zxm (h0.dig.drop j) (n + 2)
 have hP := pw_pos (n + 2)
 have hVP := val_lt dv
 rw [hv] at hVP
 have hneg : valTo (L.drop j) (n + 2 + 1) - q * val v < 0 := by
  have : pw (n + 2) * t ≤ pw (n + 2) * (-1) := Int.mul_le_mul_of_nonneg_left xq xq
  omega
 have hq1 : 1 ≤ q := by
  rcases (show q = 0 ∨ 1 ≤ q by omega) with hq | hq
  ·rw [hq] at hneg; omega
  ·exact hq
 have hsl : valTo ((S.set (j + (n + 2)) (t % 4294967296)).drop j) (n + 2) = valTo (S.drop j) (n + 2) := by rw [drop_set, valTo_set_lt _ _ (Nat.le_refl _)]
 rw [hsl] at ha
 have hlen : (S.set (j + (n + 2)) (t % 4294967296)).length = L.length := by rw [List.length_set]; exact h0.len
 obtain ⟨k1, k2⟩ := ab_end hP ha e.symm (zyy (h.dig.drop j) (n + 2)) (zxm (h.dig.drop j) (n + 2)) (by have := hend.1; omega) xq
 refine ⟨?_, hq1, by omega, by rw [List.length_set, h.len, hlen], h.dig.set _ xq, ?_, by omega, by omega, ?_, ?_⟩
 ·rw [h.same _ (.inr (Nat.le_refl _))]
  simp [show j + (n + 2) < S.length by have := h0.len; omega]
 ·intro k hk
  rw [List.getElem?_set_ne xq, h.same k xq, List.getElem?_set_ne xq]
  exact h0.same k xq
 ·rw [drop_set, zxg _ _ (by rw [List.length_drop, h.len, hlen]; omega), k2, Int.sub_mul]; omega
 ·rw [drop_set, zxg _ _ (by rw [List.length_drop, h.len, hlen]; omega), k2]; omega
theorem DigP.neg {j n : Nat} {L v S : List Int} {q cr bo u0 t : Int} (h0 : DigP j n (n + 2) L v S q cr bo) (hv : v.length = n + 2) (dL : Dig L) (hu : u0 = L[j + (n + 2)]?.getD 0) (ht : t = u0 - cr - bo) (t0 : t < 0) (q0 : 0 ≤ q) : 1 ≤ q := by
 have hs := h0.sum
 rw [zyh v xq] at hs
 have e : valTo (S.drop j) (n + 2) + pw (n + 2) * t = valTo (L.drop j) (n + 2 + 1) - q * val v := by
  refine ms_end0 (Ul := valTo (L.drop j) (n + 2)) (uN := u0) hs ?_ ht
  rw [zyg, zxe, ← hu]
 have hU0 := zyy (dL.drop j) (n + 2 + 1)
 have hX := zxm (h0.dig.drop j) (n + 2)
 have hP := pw_pos (n + 2)
 have : pw (n + 2) * t ≤ pw (n + 2) * (-1) := Int.mul_le_mul_of_nonneg_left xq xq
 rcases (show q = 0 ∨ 1 ≤ q by omega) with hq | hq
 ·rw [hq] at e; omega
 ·exact hq
end Nt
theorem SlR.blk {k : IntKind} {w w' : World} {g o n c : Nat} {l : List Int} (h : SlR k w (some ⟨g, o, none⟩) n c l) (hb : w'.heap[g]? = w.heap[g]?) (hs : w.heap.size ≤ w'.heap.size) : SlR k w' (some ⟨g, o, none⟩) n c l := by
 obtain ⟨h1, h2, h3, h4⟩ := h
 refine ⟨h1, h2, h3, fun hp => ?_⟩
 obtain ⟨b, q, e, hlt, hc⟩ := h4 hp
 cases e
 refine ⟨g, o, rfl, by omega, fun i hi => ?_⟩
 rw [← hc i hi]
 unfold World.cell?
 simp only []
 rw [hb]
structure RW (wr w : World) (B gu Lu cu gv cv n gq : Nat) (v U Q : List Int) : Prop where
 ku : OwnK .u32 wr B 119 (some ⟨gu, 0, none⟩) Lu cu U
 kv : SlR .u32 wr (some ⟨gv, 0, none⟩) n cv v
 kq : KBlk .u32 wr gq 119 Q
 bel : Below w.heap.size w wr
section
variable {wr w : World} {B gu Lu cu gv cv n gq : Nat} {v U Q : List Int}
theorem RW.drewN (h : RW wr w B gu Lu cu gv cv n gq v U Q) (k : Nat) : RW (wr.drewN k) w B gu Lu cu gv cv n gq v U Q := ⟨h.ku, h.kv, h.kq, Below.drewN' h.bel k⟩
end
def dl (N : Nat) : Nat := (Nt.digits N).length
namespace Nt
theorem dl_mono {x y : Nat} (h : y ≤ x) : dl y ≤ dl x := zxf h
theorem dl_lt {x : Nat} : (x : Int) < pw (dl x) := by have := val_lt (zyk x); rw [zyj] at this; exact this
theorem dl_le {x n : Nat} (h : (x : Int) < pw n) : dl x ≤ n := digits_length_le h
theorem dl_one : dl 1 = 1 := by unfold dl; rw [digits, if_neg xq, digits, if_pos xq]; rfl
theorem dl_zero : dl 0 = 0 := by unfold dl; rw [zxa]; rfl
theorem dl_pos {x : Nat} : 0 < dl x ↔ 0 < x := by
 constructor
 ·intro h0
  rcases Nat.eq_zero_or_pos x with h' | h'
  ·rw [h', dl_zero] at h0; omega
  ·exact h'
 ·exact zwi
def sg (s : Bool) (N : Nat) : Int := if s then -(N : Int) else (N : Int)
theorem sg_abs (s : Bool) (N : Nat) : (sg s N).natAbs = N := by unfold sg; split <;> omega
end Nt
structure Sl where
 a : Option Addr
 n : Nat
 c : Nat
@[reducible] def Sl.v (x : Sl) : Value := .slice x.a x.n x.c
structure IL where
 s : Bool
 m : Sl
@[reducible] def IL.v (i : IL) : Value := .agg #[.bool i.s, .slice i.m.a i.m.n i.m.c]
structure RL where
 s : Bool
 m : Sl
 d : Sl
def RL.cs (r : RL) : List Value := [.bool r.s, .slice r.m.a r.m.n r.m.c, .slice r.d.a r.d.n r.d.c]
def IL.cs (i : IL) : List Value := [.bool i.s, .slice i.m.a i.m.n i.m.c]
@[reducible] def RL.v (r : RL) : Value := .agg #[.bool r.s, .slice r.m.a r.m.n r.m.c, .slice r.d.a r.d.n r.d.c]
def NatV (u : World) (x : Sl) (N K : Nat) : Prop := ∃ l, SlR .u32 u x.a x.n x.c l ∧ Nt.Dig l ∧ x.n ≤ K ∧ Nt.val l = N
def NatN (u : World) (x : Sl) (N K : Nat) : Prop := x.n = dl N ∧ SlR .u32 u x.a x.n x.c (Nt.digits N) ∧ dl N ≤ K
def IntV (u : World) (i : IL) (z : Int) (K : Nat) : Prop := ∃ N, NatV u i.m N K ∧ z = Nt.sg i.s N
def IntN (u : World) (i : IL) (z : Int) (K : Nat) : Prop := i.s = decide (z < 0) ∧ NatN u i.m z.natAbs K
section
variable {u u' w w' : World} {x y : Sl} {i j : IL} {r : RL} {N M K L : Nat} {z z' : Int} {q : Rat}
theorem NatV.ext (h : NatV u x N K) (e : Ext u u') : NatV u' x N K := by obtain ⟨l, h1, h2⟩ := h; exact ⟨l, h1.ext e, h2⟩
theorem NatN.ext (h : NatN u x N K) (e : Ext u u') : NatN u' x N K := ⟨h.1, h.2.1.ext e, h.2.2⟩
theorem IntV.ext (h : IntV u i z K) (e : Ext u u') : IntV u' i z K := by obtain ⟨N, h1, h2⟩ := h; exact ⟨N, h1.ext e, h2⟩
theorem IntN.ext (h : IntN u i z K) (e : Ext u u') : IntN u' i z K := ⟨h.1, h.2.ext e⟩
theorem NatV.more (h : NatV u x N K) (k : K ≤ L) : NatV u x N L := by obtain ⟨l, h1, h2, h3, h4⟩ := h; exact ⟨l, h1, h2, by omega, h4⟩
theorem NatN.more (h : NatN u x N K) (k : K ≤ L) : NatN u x N L := ⟨h.1, h.2.1, Nat.le_trans h.2.2 k⟩
theorem IntV.more (h : IntV u i z K) (k : K ≤ L) : IntV u i z L := by obtain ⟨N, h1, h2⟩ := h; exact ⟨N, h1.more k, h2⟩
theorem IntN.more (h : IntN u i z K) (k : K ≤ L) : IntN u i z L := ⟨h.1, h.2.more k⟩
theorem NatN.raw (h : NatN u x N K) : NatV u x N K := ⟨_, h.2.1, Nt.zyk _, by have := h.2.2; rw [h.1]; exact this, Nt.zyj _⟩
theorem IntN.raw (h : IntN u i z K) : IntV u i z K := by
 refine ⟨z.natAbs, h.2.raw, ?_⟩
 unfold Nt.sg
 rw [h.1]
 by_cases hz : z < 0
 ·simp [hz]; omega
 ·simp [hz]; omega
theorem NatV.size (h : NatV u x N K) : dl N ≤ K := by
 obtain ⟨l, h1, h2, h3, h4⟩ := h
 have e := Nt.zxn h2
 rw [h4, Int.toNat_natCast] at e
 have := Nt.zyi l
 rw [e] at this
 have := h1.1
 unfold dl; omega
theorem IntV.abs (h : IntV u i z K) : NatV u i.m z.natAbs K := by
 obtain ⟨N, h1, h2⟩ := h
 have e : z.natAbs = N := by rw [h2, Nt.sg_abs]
 rw [e]; exact h1
theorem IntV.size (h : IntV u i z K) : dl z.natAbs ≤ K := h.abs.size
theorem NatN.pos (h : NatN u x N K) : 0 < x.n ↔ 0 < N := by rw [h.1]; exact Nt.dl_pos
theorem nat_nil (u : World) (K : Nat) : NatV u ⟨none, 0, 0⟩ 0 K := ⟨[], SlR.nil _ _ _ (Nat.zero_le _), Nt.Dig.nil, Nat.zero_le _, rfl⟩
theorem IntV.same {s : Bool} (h : NatV u x N K) : IntV u ⟨s, x⟩ (Nt.sg s N) K := ⟨N, h, rfl⟩
end
namespace Nt
theorem mk_den {z : Int} {D : Nat} (hD : 0 < D) : (mkRat z D).den = D / Nat.gcd z.natAbs D ∧ (mkRat z D).num = z / ((Nat.gcd z.natAbs D : Nat) : Int) := by
 rw [← Rat.normalize_eq_mkRat xq, Rat.normalize_eq]
 exact ⟨rfl, rfl⟩
theorem mk_num {z : Int} {D : Nat} (hD : 0 < D) : (mkRat z D).num.natAbs = z.natAbs / Nat.gcd z.natAbs D ∧ ((mkRat z D).num < 0 ↔ z < 0) := by
 have h := (mk_den (z := z) hD).2
 have hg : 0 < Nat.gcd z.natAbs D := Nat.gcd_pos_of_pos_right _ hD
 obtain ⟨k, hk⟩ := Nat.gcd_dvd_left z.natAbs D
 generalize Nat.gcd z.natAbs D = g at *
 rw [h]
 have hk2 : z.natAbs / g = k := by rw [hk]; exact Nat.mul_div_cancel_left _ hg
 rw [hk2]
 rcases Int.lt_or_le z 0 with hz | hz
 ·have e : z = -((g : Int) * (k : Int)) := by rw [← Int.natCast_mul, ← hk]; omega
  have hk0 : 0 < k := by
   rcases Nat.eq_zero_or_pos k with h | h
   ·rw [h] at hk; simp at hk; omega
   ·exact h
  have e2 : z / (g : Int) = -(k : Int) := by
   rw [e, ← Int.mul_neg]
   exact Int.mul_ediv_cancel_left _ xq
  rw [e2]
  exact ⟨by omega, by omega⟩
 ·have e : z = (g : Int) * (k : Int) := by rw [← Int.natCast_mul, ← hk]; omega
  have e2 : z / (g : Int) = (k : Int) := by rw [e]; exact Int.mul_ediv_cancel_left _ xq
  rw [e2]
  exact ⟨by omega, by omega⟩
def rs (q : Rat) : Nat := max (dl q.num.natAbs) (dl q.den)
theorem rs_mk {z : Int} {D K : Nat} (hz : dl z.natAbs ≤ K) (hd : dl D ≤ K) (hK : 1 ≤ K) : rs (mkRat z D) ≤ K := by
 rcases Nat.eq_zero_or_pos D with h | h
 ·rw [h, Rat.mkRat_zero]
  unfold rs
  rw [show (0 : Rat).num.natAbs = 0 from rfl, show (0 : Rat).den = 1 from rfl, dl_zero, dl_one]
  omega
 ·unfold rs
  have h1 : dl (mkRat z D).num.natAbs ≤ dl z.natAbs := by rw [(mk_num h).1]; exact dl_mono (Nat.div_le_self _ _)
  have h2 : dl (mkRat z D).den ≤ dl D := by rw [(mk_den h).1]; exact dl_mono (Nat.div_le_self _ _)
  omega
theorem den_pos (q : Rat) : 0 < q.den := Nat.pos_of_ne_zero q.den_nz
theorem rs_pos (q : Rat) : 1 ≤ rs q := by
 unfold rs
 have := dl_mono (den_pos q)
 rw [show Nat.succ 0 = 1 from rfl, dl_one] at this
 omega
theorem mk_one (a : Int) : mkRat a 1 = (a : Rat) := by rw [Rat.mkRat_eq_div]; show (a : Rat) / ((1 : Nat) : Rat) = a; grind
def absQ (x : Rat) : Rat := if x < 0 then -x else x
theorem rs_int {z : Int} {K : Nat} (h : dl z.natAbs ≤ K) (hK : 1 ≤ K) : rs (z : Rat) ≤ K := by
 rw [← mk_one]; exact rs_mk h (by rw [dl_one]; exact hK) hK
def quoI (x y : Int) : Int := if decide (x < 0) == decide (y < 0) then (x.natAbs : Int) else -(x.natAbs : Int)
theorem quoI_abs (x y : Int) : (quoI x y).natAbs = x.natAbs := by unfold quoI; split <;> omega
theorem div_mk2 {x y : Int} (hy : y ≠ 0) : mkRat (quoI x y) y.natAbs = (x : Rat) / (y : Rat) := by
 unfold quoI
 rw [← Rat.divInt_eq_div, ← Rat.divInt_ofNat]
 by_cases hx : x < 0 <;> by_cases hy' : y < 0
 ·rw [if_pos (by simp [hx, hy']), ← Rat.neg_divInt_neg x y, show ((x.natAbs : Nat) : Int) = -x by omega, show ((y.natAbs : Nat) : Int) = -y by omega]
 ·rw [if_neg (by simp [hx, hy']), show ((x.natAbs : Nat) : Int) = -x by omega, show ((y.natAbs : Nat) : Int) = y by omega, Int.neg_neg]
 ·rw [if_neg (by simp [hx, hy']), ← Rat.neg_divInt_neg x y, show ((x.natAbs : Nat) : Int) = x by omega, show ((y.natAbs : Nat) : Int) = -y by omega]
 ·rw [if_pos (by simp [hx, hy']), show ((x.natAbs : Nat) : Int) = x by omega, show ((y.natAbs : Nat) : Int) = y by omega]
end Nt
def RatV (u : World) (r : RL) (q : Rat) (K : Nat) : Prop := (∃ z D, IntV u ⟨r.s, r.m⟩ z K ∧ NatV u r.d D K ∧ q = mkRat z D) ∧ 1 ≤ K
def RatN (u : World) (r : RL) (q : Rat) (K : Nat) : Prop := IntN u ⟨r.s, r.m⟩ q.num K ∧ NatN u r.d q.den K
section
variable {u u' w w' : World} {x y : Sl} {i j : IL} {r : RL} {N M K L : Nat} {z z' : Int} {q : Rat}
theorem RatV.ext (h : RatV u r q K) (e : Ext u u') : RatV u' r q K := by
 obtain ⟨⟨z, D, h1, h2, h3⟩, h4⟩ := h; exact ⟨⟨z, D, h1.ext e, h2.ext e, h3⟩, h4⟩
theorem RatN.ext (h : RatN u r q K) (e : Ext u u') : RatN u' r q K := ⟨h.1.ext e, h.2.ext e⟩
theorem RatV.more (h : RatV u r q K) (k : K ≤ L) : RatV u r q L := by
 obtain ⟨⟨z, D, h1, h2, h3⟩, h4⟩ := h; exact ⟨⟨z, D, h1.more k, h2.more k, h3⟩, by omega⟩
theorem RatN.more (h : RatN u r q K) (k : K ≤ L) : RatN u r q L := ⟨h.1.more k, h.2.more k⟩
theorem RatN.rs (h : RatN u r q K) : Nt.rs q ≤ K := by
 have h1 := h.1.2.2.2
 have h2 := h.2.2.2
 unfold Nt.rs; omega
theorem RatN.fit (h : RatN u r q K) (k : Nt.rs q ≤ L) : RatN u r q L := by
 unfold Nt.rs at k
 exact ⟨⟨h.1.1, h.1.2.1, h.1.2.2.1, by omega⟩, h.2.1, h.2.2.1, by omega⟩
theorem RatN.raw (h : RatN u r q K) : RatV u r q K := ⟨⟨q.num, q.den, h.1.raw, h.2.raw, (Rat.mkRat_self q).symm⟩, by have := Nt.rs_pos q; have := h.rs; omega⟩
theorem RatV.rs (h : RatV u r q K) : Nt.rs q ≤ K := by
 obtain ⟨⟨z, D, h1, h2, h3⟩, h4⟩ := h
 rw [h3]; exact Nt.rs_mk h1.size h2.size h4
theorem rat_nil (u : World) : RatV u ⟨false, ⟨none, 0, 0⟩, ⟨none, 0, 0⟩⟩ 0 1 := ⟨⟨0, 0, ⟨0, nat_nil _ _, rfl⟩, nat_nil _ _, by simp⟩, Nat.le_refl _⟩
end
end Go.Proofs.Ytdmpfhhhlhoeiaa
namespace Go.Proofs.Ytdmpfhhhlhoeiaa
open Go.RowKit Go.ChangeShapes Go.WideShapes
set_option linter.unusedVariables false
section
variable {H : Type} {enc : TypeId × Value → H} {P : Program} {w : World} {base : Nat} {spare : Nat → Bool} {held : Bool} {fuel : Nat} {cs : List Value} {x : DataW H × List MemPlace}
theorem ar_slr {k : IntKind} {t e : TypeId} (ht : P.underlying t = some (.slice e)) (he : P.underlying e = some (.int k)) (hc : P.cellsOf e = 1) (h : DataW.trod enc P w base spare held fuel t cs = some x) :
  ∃ (s : Sl) (l : List Int), cs = [s.v] ∧ SlR k w s.a s.n s.c l ∧ ∀ z ∈ l, (Lit.int k z).wf = true := by
 rcases open_ints ht he hc h with ⟨rfl, _⟩ | ⟨a, len, cap, zs, rfl, _, hl, hm, hz, _, hcell, hwz⟩
 ·exact ⟨⟨none, 0, 0⟩, [], rfl, SlR.nil w none 0 (Nat.zero_le _), (fun z h => by cases h)⟩
 ·have hle : len ≤ zs.length := by rw [hz]; split <;> omega
  refine ⟨⟨some a, len, cap⟩, zs.take len, rfl, ⟨by simp; omega, hl, hm, fun hp => ?_⟩, fun z hz' => hwz z (List.mem_of_mem_take hz')⟩
  have hp : 0 < len := hp
  obtain ⟨b, o, sp⟩ := a
  have h0 := hcell 0 xq
  have hsp : sp = none := by simpa [Addr.add] using World.cell?_spot h0
  subst hsp
  refine ⟨b, o, rfl, ?_, fun i hi => ?_⟩
  ·have := block_lt_of_cell h0
   simpa [Addr.add] using this
  ·have hi : i < len := hi
   have := hcell i xq
   rw [show (⟨b, o, none⟩ : Addr).add i = ⟨b, o + i, none⟩ by unfold Addr.add; split <;> simp_all] at this
   rw [this, List.getElem?_take_of_lt hi]
   simp
theorem wf_i64 {z : Int} (h : (Lit.int .i64 z).wf = true) : -9223372036854775808 ≤ z ∧ z ≤ 9223372036854775807 := by
 simp [Lit.wf, IntKind.min, IntKind.max, IntKind.bits, IntKind.signed] at h
 omega
theorem two_of {α : Type} {xs : List α} (h : xs.length = 2) : ∃ a b, xs = [a, b] := by
 match xs, h with
 | [a, b], _ => exact ⟨a, b, rfl⟩
section
variable {r0 : Reach} {b0 : Nat} {v : Value} {d : DataW H} {p : List MemPlace}
end
end
end Go.Proofs.Ytdmpfhhhlhoeiaa
namespace Go.Proofs.Ytdmpfhhhlhoeiaa
open Go.RowKit
set_option linter.unusedVariables false
def St.own (S : St) (d : Tmp) (V : Vr) (n c : Nat) : St := ⟨S.n, upd S.reg d (some (.slc d 0 n c)), upd S.var d (some V)⟩
def hide (u w' : World) : World := { u with heap := u.heap ++ Array.replicate (w'.heap.size - u.heap.size) hidO }
section
variable {P : Program} {ops : Array Oper} {w0 : Base} {u0 : World} {S T : St} {B : Tmp → Nat} {a : Act} {w w' u u' : World} {o : Oper} {p : List Tmp} {seq : Bool} {rest : List (Oper × List Tmp)} {K : St → World → Prop}
theorem zwj (h : u.heap.size ≤ w'.heap.size) : (hide u w').heap.size = w'.heap.size := by simp [hide]; omega
theorem hide_old {b : Nat} (h : b < u.heap.size) : (hide u w').heap[b]? = u.heap[b]? := by
 simp only [hide]; rw [Array.getElem?_append_left h]
theorem hide_new {b : Nat} (h : u.heap.size ≤ b) (h2 : b < w'.heap.size) : (hide u w').heap[b]? = some hidO := by
 simp only [hide]; rw [Array.getElem?_append_right h, Array.getElem?_replicate, if_pos xq]
theorem hide_grow (h : u.heap.size ≤ w'.heap.size) : Grow u (hide u w') := ⟨by rw [zwj h]; exact h, fun b hb => hide_old hb⟩
theorem zwa {pubs : List Tmp} {r : Tmp} {x : SV} (h : (S.unpub pubs).reg r = some x) : S.reg r = some x ∧ r ∉ pubs := by
 simp only [St.unpub] at h
 cases e : pubs.contains r with
 | true => rw [e] at h; cases h
 | false => rw [e] at h; exact ⟨h, fun hm => by rw [List.contains_iff_mem.2 hm] at e; cases e⟩
theorem zxi {pubs : List Tmp} {r : Tmp} {x : Vr} (h : (S.unpub pubs).var r = some x) : S.var r = some x ∧ r ∉ pubs := by
 simp only [St.unpub] at h
 cases e : pubs.contains r with
 | true => rw [e] at h; cases h
 | false => rw [e] at h; exact ⟨h, fun hm => by rw [List.contains_iff_mem.2 hm] at e; cases e⟩
theorem Rep.grown (h : Rep w0 u0 S B a w u) {pubs : List Tmp} (hno : NoAt S pubs) {row : Option Nat} (hrow : ∀ b, row = some b → ∃ t ∈ pubs, t < S.n ∧ ∃ V, S.var t = some V ∧ B t = b) (hg : w.grownBy w' row)
  {d : Tmp} {V : Vr} {g n c : Nat} (hd : d < S.n) (hdv : S.var d = none ∨ d ∈ pubs) (hgv : w'.heap[g]? = some (.cells V.cs.toArray V.ty (0, 0))) (hgo : row = some g ∨ g = w.heap.size) :
  Rep w0 u0 ((S.unpub pubs).own d V n c) (setB B d g) (a.put (some d) (.slice (some ⟨g, 0, none⟩) n c)) w' (hide u w') := by
 have hus : u.heap.size = w.heap.size := h.dat.size
 have hsz : u.heap.size ≤ w'.heap.size := by rw [hus]; exact hg.size
 have hrowu : ∀ b, row = some b → u.heap[b]? = some hidO ∧ u0.heap.size ≤ b ∧ b < w.heap.size := fun b hb => by
  obtain ⟨t, _, hlt, V', hV, rfl⟩ := hrow b hb
  exact ⟨(h.var t V' hV).2.1, (h.var t V' hV).2.2.1 hlt, h.lt hV⟩
 have hat : ∀ r x, S.reg r = some x → r ∉ pubs → x.at? ≠ some d := fun r x hx hr e => by
  obtain ⟨V', hV'⟩ := h.wf.reg r x d hx e
  rcases hdv with hdv | hdv
  ·rw [hdv] at hV'; cases hV'
  ·exact hr (hno r x d hx e hdv)
 refine ⟨⟨fun r x hx => ?_, by rw [Act.put_size]; exact h.regs.size⟩, ⟨fun r x t hx ht => ?_⟩, by rw [put_defers]; exact h.defers, fun t V' hV => ?_, fun t t' V1 V2 h1 h2 e => ?_, ⟨zwj hsz, fun b o hb hh => ?_⟩, h.base, h.grow.trans (hide_grow hsz), ?_⟩
 ·by_cases e : r = d
  ·subst e
   simp only [St.own, zxb] at hx
   injection hx with hx
   subst hx
   rw [Act.put_get_same _ _ (by rw [h.regs.size]; exact hd)]
   simp [SV.conc, setB]
  ·simp only [St.own, upd_ne _ _ e] at hx
   obtain ⟨k1, k2⟩ := zwa hx
   rw [Act.put_get_ne _ _ (fun k => e (by injection k with k; exact k.symm)), conc_setB (hat r x k1 k2)]
   exact h.regs.reg r x k1
 ·show ∃ V', upd (S.unpub pubs).var d (some V) t = some V'
  by_cases e : t = d
  ·subst e; exact ⟨V, zxb _ _ _⟩
  ·rw [upd_ne _ _ e]
   by_cases e2 : r = d
   ·subst e2
    simp only [St.own, zxb] at hx
    injection hx with hx
    subst hx
    injection ht with ht; exact absurd ht.symm e
   ·simp only [St.own, upd_ne _ _ e2] at hx
    obtain ⟨k1, k2⟩ := zwa hx
    obtain ⟨V', hV'⟩ := h.wf.reg r x t k1 ht
    have hnt : t ∉ pubs := fun hm => k2 (hno r x t k1 ht hm)
    exact ⟨V', by rw [unpub_var hnt]; exact hV'⟩
 ·by_cases e : t = d
  ·subst e
   simp only [St.own, zxb] at hV
   injection hV with hV
   subst hV
   rw [show setB B t g t = g by simp [setB]]
   refine ⟨hgv, ?_, ?_⟩
   ·rcases hgo with hgo | hgo
    ·obtain ⟨k1, _, k3⟩ := hrowu g hgo
     rw [hide_old xq]; exact k1
    ·exact hide_new xq (zyz hgv)
   ·refine .mk0 hd ?_
    rcases hgo with hgo | hgo
    ·exact (hrowu g hgo).2.1
    ·have := h.grow.size; omega
  ·simp only [St.own, upd_ne _ _ e] at hV
   obtain ⟨k1, k2⟩ := zxi hV
   obtain ⟨g1, g2, g3⟩ := h.var t V' k1
   rw [show setB B d g t = B t by simp [setB, e]]
   refine ⟨?_, by rw [hide_old (zyz g2)]; exact g2, g3⟩
   rw [hg.block _ (h.lt k1) ?_]
   ·exact g1
   ·intro hb
    obtain ⟨s, hs, _, Vs, hVs, he⟩ := hrow _ hb.symm
    exact k2 (h.inj s t Vs V' hVs k1 he ▸ hs)
 ·have key : ∀ t V1, (((S.unpub pubs).own d V n c)).var t = some V1 → t ≠ d → S.var t = some V1 ∧ t ∉ pubs := fun t V1 hV e => by
   simp only [St.own, upd_ne _ _ e] at hV; exact zxi hV
  have hgt : ∀ t V1, S.var t = some V1 → t ∉ pubs → B t ≠ g := fun t V1 hV hn e => by
   rcases hgo with hgo | hgo
   ·obtain ⟨s, hs, _, Vs, hVs, he⟩ := hrow g hgo
    exact hn (h.inj s t Vs V1 hVs hV (he.trans e.symm) ▸ hs)
   ·have := h.lt hV; omega
  by_cases e1 : t = d
  ·by_cases e2 : t' = d
   ·rw [e1, e2]
   ·obtain ⟨k1, k2⟩ := key t' V2 h2 e2
    simp [setB, e1, e2] at e
    exact absurd e.symm (hgt t' V2 k1 k2)
  ·obtain ⟨k1, k2⟩ := key t V1 h1 e1
   by_cases e2 : t' = d
   ·simp [setB, e1, e2] at e
    exact absurd e (hgt t V1 k1 k2)
   ·obtain ⟨k3, k4⟩ := key t' V2 h2 e2
    simp [setB, e1, e2] at e
    exact h.inj t t' V1 V2 k1 k3 e
 ·rcases Nat.lt_or_ge b u.heap.size with hlt | hge
  ·rw [hide_old hlt] at hb
   rw [hg.block b xq (fun hc => ?_)]
   ·exact h.dat.vis b o hb hh
   ·obtain ⟨k1, _⟩ := hrowu b hc.symm
    rw [k1] at hb; injection hb with hb; exact hh hb.symm
  ·have hlt := zyz hb
   rw [zwj hsz] at hlt
   rw [hide_new hge hlt] at hb; injection hb with hb; exact absurd hb.symm hh
 ·refine h.bel.trans ⟨hg.os, hg.tape, hg.output, hg.size, fun k hk => hg.block k ?_ (fun hc => ?_)⟩
  ·have h1 := h.bel.size; omega
  ·obtain ⟨_, k2, _⟩ := hrowu k hc.symm
   have := h.base; omega
theorem run_app {T E : TypeId} {z : Value} {size bytes : Nat} (hT : P.underlying T = some (.slice E)) (hi : (P.info? E).map (fun i => (i.zero, i.size, i.bytes)) = some (some z, size, bytes)) (hzs : z.cells.size = size) (hsz : 0 < size)
  {v : Value} {n : Nat} {xs : List Value} (hown : w.ownsRow u0.heap.size E size v n xs) {ad : Addr} {m c : Nat} {news : List Value} (hl : news.length = m * size) (hnews : ∀ j x, news[j]? = some x → w.cell? (ad.add j) = some x) (h1 : ∀ x ∈ news, x.oneCell' = true)
  (hm : 0 < m) (h63 : n + m ≤ maxLen) (hbytes : (n + m) * bytes ≤ 140737488355328) (hb : u0.heap.size ≤ w.heap.size) (ty : TypeId) :
  ∃ g c1 cs w', (Builtin.append_ #[T, T] ty #[v, .slice (some ad) m c]).run P w = .ok (.slice (some ⟨g, 0, none⟩) (n + m) c1) w' ∧ w'.heap[g]? = some (.cells cs E (0, 0)) ∧ n + m ≤ c1 ∧ c1 ≤ maxLen ∧ cs.toList.length = c1 * size ∧ cs.toList.take ((n + m) * size) = xs ++ news ∧
   w.grownBy w' v.ownBlock ∧ (v.ownBlock = some g ∨ g = w.heap.size) := by
 obtain ⟨i, hi1, hz, hs, hby⟩ := info_parts hi
 obtain ⟨v', w', hrun, g1, g2, g3, g4⟩ := run_append_own_at (P := P) w u0.heap.size T ty E i z size bytes hT hi1 hz hs hby hzs hsz v n xs hown ad m c news hl hnews h1 h63 hbytes hb
 rcases g1.2 with ⟨he, hn⟩ | ⟨g, cap, cur, he, hg, hh, hc, hm', hcs, ht⟩
 ·omega
 ·subst he
  refine ⟨g, cap, cur, w', hrun, hh, hc, hm', by simpa using hcs, ht, g2, ?_⟩
  rcases g4 with g4 | g4
  ·exact .inl g4.symm
  ·injection g4 with g4; exact .inr g4
theorem ev_of {x : Operand} {y : SV} (hr : RegOK S B a) (h : evO S x = some y) : a.eval x = y.conc B := ev_eval hr h
theorem sy_app0 (d : Tmp) {T E : TypeId} {s x : Operand} {z : Value} {size bytes : Nat} {b off m c : Nat} (news : List Value) (hT : P.underlying T = some (.slice E)) (hi : (P.info? E).map (fun i => (i.zero, i.size, i.bytes)) = some (some z, size, bytes)) (hzs : z.cells.size = size) (hsz : 0 < size)
  (hl : news.length = m * size) (hnews : ∀ j v, news[j]? = some v → u.cell? ⟨b, off + j, none⟩ = some v) (h1 : ∀ v ∈ news, v.oneCell' = true) (hm : 0 < m) (h63 : m ≤ maxLen) (hbytes : m * bytes ≤ 140737488355328)
  (k : ∀ c1 cs, m ≤ c1 → c1 ≤ maxLen → cs.length = c1 * size → cs.take (m * size) = news → sym P ops w0 u0 true rest (S.own d ⟨E, cs⟩ m c1) u K)
  (hw : Wants ops o S := by exact zwb xv) (hd : o.dst = some d := by kernel_rfl) (hop : o.op = .call { callee := .builtin .append, args := #[s, x], argTypes := #[T, T] } := by rfl) (hf : (freeB S d && (S.var d).isNone) = true := by kernel_rfl)
  (hs : evO S s = some (.v (.slice none 0 0)) := by rfl) (hx : evO S x = some (.v (.slice (some ⟨b, off, none⟩) m c)) := by rfl) : sym P ops w0 u0 true ((o, p) :: rest) S u K := by
 simp only [Bool.and_eq_true, Option.isNone_iff_eq_none] at hf
 refine .inr (.inr (.inl ⟨.inl rfl, fun B a w u' he hrep => ⟨hw B a hrep.regs, ?_⟩⟩))
 obtain ⟨g, c1, cs, w', hrun, hgv, k1, k2, k3, k4, k5, k6⟩ := run_app (P := P) (u0 := u0) (w := w) (v := .slice none 0 0) (n := 0) (xs := []) (ad := ⟨b, off, none⟩) (c := c) hT hi hzs hsz ⟨by simp, .inl ⟨rfl, rfl⟩⟩ hl (fun j v hv => by rw [addr_add]; exact hrep.dat.ext.cell (he.cell (hnews j v hv))) h1 hm xq (by simpa using hbytes) (by rw [← hrep.dat.size]; exact hrep.grow.size) o.type
 rw [Nat.zero_add] at hrun k1 k4
 unfold Oper.wp execOp
 simp only [hop, resolve, invoke, builtin, Sem.run_bind, Sem.run_pure, Result.andThen_ok, List.map_toArray, List.map_cons, List.map_nil, ev_of hrep.regs hs, ev_of hrep.regs hx, SV.conc, hrun]
 have hr2 := hrep.grown (pubs := []) (fun r x t _ _ h => by cases h) (row := none) (fun b h => by cases h) k5 (d := d) (V := ⟨E, cs.toList⟩) (g := g) (n := m) (c := c1) (zxt hd hf.1 d hd).1 (.inl hf.2) (by simpa using hgv) (k6.imp (fun h => by cases h) id)
 rw [unpub_nil] at hr2
 have hsz2 : u'.heap.size ≤ w'.heap.size := by rw [hrep.dat.size]; exact k5.size
 show ∃ S' B' u'' u2, Rep w0 u0 S' B' (a.put o.dst _) w' u'' ∧ _
 rw [hd]
 exact ⟨_, _, _, u, hr2, fun _ => (hide_grow hsz2).ext, fun _ => Ext.refl _, he.trans (hide_grow hsz2).ext, k c1 cs.toList k1 k2 k3 (by simpa using k4)⟩
theorem sy_app1 (d : Tmp) {T E : TypeId} {s x : Operand} {z : Value} {size bytes : Nat} {b off m c t n cap : Nat} {cs0 : List Value} (pubs : List Tmp) (news : List Value) (hT : P.underlying T = some (.slice E)) (hi : (P.info? E).map (fun i => (i.zero, i.size, i.bytes)) = some (some z, size, bytes)) (hzs : z.cells.size = size) (hsz : 0 < size)
  (hl : news.length = m * size) (hnews : ∀ j v, news[j]? = some v → u.cell? ⟨b, off + j, none⟩ = some v) (h1 : ∀ v ∈ news, v.oneCell' = true) (hm : 0 < m) (h63 : n + m ≤ maxLen) (hbytes : (n + m) * bytes ≤ 140737488355328)
  (hn : n ≤ cap) (hcap : cap ≤ maxLen) (hcl : cs0.length = cap * size) (hno : NoAt S pubs)
  (k : ∀ c1 cs, n + m ≤ c1 → c1 ≤ maxLen → cs.length = c1 * size → cs.take ((n + m) * size) = cs0.take (n * size) ++ news → sym P ops w0 u0 true rest ((S.unpub pubs).own d ⟨E, cs⟩ (n + m) c1) u K)
  (hw : Wants ops o S := by exact zwb xv) (hd : o.dst = some d := by kernel_rfl) (hop : o.op = .call { callee := .builtin .append, args := #[s, x], argTypes := #[T, T] } := by rfl) (hf : (Nat.blt d S.n && ((S.var d).isNone || pubs.contains d) && pubs.contains t && Nat.blt t S.n) = true := by kernel_rfl)
  (hs : evO S s = some (.slc t 0 n cap) := by rfl) (hv : S.var t = some ⟨E, cs0⟩ := by rfl) (hx : evO S x = some (.v (.slice (some ⟨b, off, none⟩) m c)) := by rfl) : sym P ops w0 u0 true ((o, p) :: rest) S u K := by
 simp only [Bool.and_eq_true, Bool.or_eq_true, Option.isNone_iff_eq_none, List.contains_iff_mem] at hf
 refine .inr (.inr (.inl ⟨.inl rfl, fun B a w u' he hrep => ⟨hw B a hrep.regs, ?_⟩⟩))
 have htn : t < S.n := Nat.le_of_ble_eq_true hf.2
 obtain ⟨v1, v2, v3⟩ := hrep.var t _ hv
 have v3 := v3.1 htn
 obtain ⟨g, c1, cs, w', hrun, hgv, k1, k2, k3, k4, k5, k6⟩ := run_app (P := P) (u0 := u0) (w := w) (v := .slice (some ⟨B t, 0, none⟩) n cap) (n := n) (xs := cs0.take (n * size)) (ad := ⟨b, off, none⟩) (c := c) hT hi hzs hsz
  ⟨by rw [List.length_take, hcl]; exact Nat.min_eq_left (Nat.mul_le_mul_right _ hn), .inr ⟨B t, cap, cs0.toArray, rfl, v3, v1, hn, hcap, by simpa using hcl, by simp⟩⟩ hl (fun j v hv => by rw [addr_add]; exact hrep.dat.ext.cell (he.cell (hnews j v hv))) h1 hm h63 hbytes (by rw [← hrep.dat.size]; exact hrep.grow.size) o.type
 unfold Oper.wp execOp
 simp only [hop, resolve, invoke, builtin, Sem.run_bind, Sem.run_pure, Result.andThen_ok, List.map_toArray, List.map_cons, List.map_nil, ev_of hrep.regs hs, ev_of hrep.regs hx, SV.conc, hrun]
 have hr2 := hrep.grown hno (row := some (B t)) (fun b h => by injection h with h; exact ⟨t, hf.1.2, htn, _, hv, h⟩) k5 (d := d) (V := ⟨E, cs.toList⟩) (g := g) (n := n + m) (c := c1) (Nat.le_of_ble_eq_true hf.1.1.1) hf.1.1.2 (by simpa using hgv) k6
 have hsz2 : u'.heap.size ≤ w'.heap.size := by rw [hrep.dat.size]; exact k5.size
 show ∃ S' B' u'' u2, Rep w0 u0 S' B' (a.put o.dst _) w' u'' ∧ _
 rw [hd]
 exact ⟨_, _, _, u, hr2, fun _ => (hide_grow hsz2).ext, fun _ => Ext.refl _, he.trans (hide_grow hsz2).ext, k c1 cs.toList k1 k2 k3 k4⟩
theorem makes {T E : TypeId} {x y : Operand} {z : Value} {size bytes : Nat} {k1 k2 : IntKind} (n : Nat) (hT : P.underlying T = some (.slice E)) (hi : (P.info? E).map (fun i => (i.zero, i.size, i.bytes)) = some (some z, size, bytes)) (hb : bytes * n ≤ 281474976710656) (h63 : n ≤ maxLen) (hop : o.op = .makeSlice T x y)
  (hx : evO S x = some (.v (.int k1 n))) (hy : evO S y = some (.v (.int k2 n))) (hr : RegOK S B a) : (execOp a.eval o).run P w = .ok (.value (.slice (some ⟨w.heap.size, 0, none⟩) n n)) (w.alloc (.cells (madeCells z.cells (n * size)) E)) := by
 obtain ⟨inf, hi1, hz, hs, hby⟩ := info_parts hi
 have h63' : (n : Int) ≤ 9223372036854775807 := by unfold maxLen at h63; omega
 have hb' : (inf.bytes : Int) * (n : Int) ≤ 281474976710656 := by
  have h : ((inf.bytes * n : Nat) : Int) ≤ 281474976710656 := by rw [hby]; omega
  rwa [Int.natCast_mul] at h
 have hrun := run_make (P := P) w T E inf z hT hi1 hz k1 k2 n n xq (Int.le_refl _) hb' h63'
 have e1 : (execOp a.eval o).run P w = (do pure (Next.value (← Instr.makeSlice T (a.eval x) (a.eval y))) : Sem Next).run P w := by unfold execOp; rw [hop]
 rw [e1, ev_of hr hx, ev_of hr hy]
 rw [hs] at hrun
 exact run_val (by simpa [SV.conc] using hrun)
theorem sy_make (d : Tmp) {T E : TypeId} {x y : Operand} {z : Value} {size bytes : Nat} {k1 k2 : IntKind} {i j : Int} (n : Nat) (cs : List Value) (hT : P.underlying T = some (.slice E)) (hi : (P.info? E).map (fun i => (i.zero, i.size, i.bytes)) = some (some z, size, bytes)) (hn : i = n) (hn2 : j = n) (hb : bytes * n ≤ 281474976710656) (h63 : n ≤ maxLen) (hcs : (madeCells z.cells (n * size)).toList = cs)
  (k : sym P ops w0 u0 seq rest (S.lit d ⟨E, cs⟩ n) u K) (hw : Wants ops o S := by exact zwb xv) (hd : o.dst = some d := by kernel_rfl) (hop : o.op = .makeSlice T x y := by rfl) (hf : freeB S d = true := by kernel_rfl) (hv : S.var d = none := by kernel_rfl)
  (hx : evO S x = some (.v (.int k1 i)) := by rfl) (hy : evO S y = some (.v (.int k2 j)) := by rfl) : sym P ops w0 u0 seq ((o, p) :: rest) S u K := by
 obtain ⟨inf, hi1, hz, hs, hby⟩ := info_parts hi
 subst hcs hn hn2
 refine .inl ⟨by rw [hop]; exact (by decide : (0 : Nat) ≠ 2), (.lit ⟨E, (madeCells z.cells (n * size)).toList⟩ n), ⟨zxt hd hf, d, hd, hv, fun B a w hr => ⟨hw B a hr, ?_⟩⟩, ?_⟩
 ·have h63' : (n : Int) ≤ 9223372036854775807 := by unfold maxLen at h63; omega
  have hb' : (inf.bytes : Int) * (n : Int) ≤ 281474976710656 := by
   have h : ((inf.bytes * n : Nat) : Int) ≤ 281474976710656 := by rw [hby]; omega
   rwa [Int.natCast_mul] at h
  have hrun := run_make (P := P) w T E inf z hT hi1 hz k1 k2 n n xq (Int.le_refl _) hb' h63'
  have e1 : (execOp a.eval o).run P w = (do pure (Next.value (← Instr.makeSlice T (a.eval x) (a.eval y))) : Sem Next).run P w := by unfold execOp; rw [hop]
  rw [e1, ev_of hr hx, ev_of hr hy]
  rw [hs] at hrun
  exact run_val (by simpa [SV.conc] using hrun)
 ·show sym P ops w0 u0 seq rest (S.app o.dst (.lit ⟨E, (madeCells z.cells (n * size)).toList⟩ n)) u K
  rw [hd]; exact k
theorem zyw (d : Tmp) {T : TypeId} {r t : Tmp} {ix : Operand} {off n c sz off' : Nat} {kk : IntKind} {i : Int} (hT : SlIs P T sz) (h0 : 0 ≤ i) (h1 : i < n) (ho : off + i.toNat * sz = off') (k : sym P ops w0 u0 seq rest (S.set d (.adr t off')) u K) (hw : Wants ops o S := by exact zwb xv) (hd : o.dst = some d := by kernel_rfl) (hop : o.op = .indexAddr T (.tmp r) ix := by rfl) (hf : freeB S d = true := by kernel_rfl)
  (hx : S.reg r = some (.slc t off n c) := by rfl) (hi : evO S ix = some (.v (.int kk i)) := by rfl) : sym P ops w0 u0 seq ((o, p) :: rest) S u K := by
 subst ho
 have hl : r ∈ o.looksAt ops := List.mem_append_left _ (List.mem_filterMap.2 ⟨.tmp r, by rw [hop]; simp [Op.operands], rfl⟩)
 refine .inl ⟨by rw [hop]; exact (by decide : (0 : Nat) ≠ 2), .set (.adr t (off + i.toNat * sz)), ⟨zxt hd hf, .inl ⟨(fun s hs => ⟨r, hl, _, hx, hs⟩), fun B a w u' hr he hdt => ⟨hw B a hr, ?_⟩⟩⟩, ?_⟩
 ·have e1 : (execOp a.eval o).run P w = (do pure (Next.value (← Instr.indexAt T (a.eval (.tmp r)) (a.eval ix))) : Sem Next).run P w := by unfold execOp; rw [hop]
  rw [e1, hr.eval hx, ev_of hr hi]
  exact run_val (run_index hT h0 h1)
 ·show sym P ops w0 u0 seq rest (S.put o.dst (some _)) u K
  rw [hd]; exact k
theorem zyv {T : TypeId} {r s : Tmp} {z : Operand} {off : Nat} {V : Vr} (cs' : List Value) {v : Value} {agg : Bool} {n : Nat} (hT : TyIs P T agg n) (hle : off + n ≤ V.cs.length) (hV : setL V.cs off v.cells.toList = cs') (k : sym P ops w0 u0 seq rest (S.setVar s ⟨V.ty, cs'⟩) u K) (hw : Wants ops o S := by exact zwb xv) (hd : o.dst = none := by kernel_rfl) (hop : o.op = .store T (.tmp r) z := by rfl) (hr : S.reg r = some (.adr s off) := by rfl) (hv : S.var s = some V := by rfl) (hz : evO S z = some (.v v) := by rfl)
  (hn : v.cells.size = n := by kernel_rfl) (hone : v.cells.toList.all Value.oneCell' = true := by kernel_rfl) (hnl : (p.all fun r' => match S.reg r' with | some (.adr t _) => !Nat.beq t s | _ => true) = true := by kernel_rfl) : sym P ops w0 u0 seq ((o, p) :: rest) S u K := by
 subst hV
 refine .inr (.inr (.inr (.inl ⟨s, _, ⟨T, r, z, off, V, v, agg, n, hop, hd, hr, hv, fun B a hreg => ?_, hT, hn, hone, hle, rfl, hw, fun r' hr' t off' ht => ?_⟩, k⟩)))
 ·cases z with
  | tmp t => exact hreg.eval hz
  | const x => injection hz with hz; injection hz
  | global g => injection hz with hz; injection hz
  | func f => injection hz with hz; injection hz
 ·have := List.all_eq_true.1 hnl r' hr'
  simp only [ht, Bool.not_eq_true'] at this
  rintro rfl
  rw [Nat.beq_refl] at this; cases this
theorem Rep.pub (h : Rep w0 u0 S B a w u) {r t : Tmp} {off n c : Nat} {V : Vr} {pubs : List Tmp} (hno : NoAt S pubs) (ht : t ∈ pubs) (hall : ∀ s ∈ pubs, ∀ V', S.var s = some V' → s = t) (hr : S.reg r = some (.slc t off n c)) (hv : S.var t = some V) (htn : t < S.n) :
  Rep w0 u0 ((S.unpub pubs).set r (.v (.slice (some ⟨B t, off, none⟩) n c))) B a w (pubW u w [B t]) := by
 refine ⟨⟨fun s x hx => ?_, h.regs.size⟩, ⟨fun s x t' hx ht' => ?_⟩, h.defers, fun s V' hV => ?_, fun s s' V1 V2 h1 h2 e => ?_, pubW_dat h.dat, h.base, pubW_grow h.grow (fun b hb => ?_), h.bel⟩
 ·by_cases e : s = r
  ·subst e
   simp only [St.set, zxb] at hx
   injection hx with hx
   subst hx
   exact h.regs.reg s (.slc t off n c) hr
  ·simp only [St.set, upd_ne _ _ e] at hx
   exact h.regs.reg s x (zwa hx).1
 ·by_cases e : s = r
  ·subst e
   simp only [St.set, zxb] at hx
   injection hx with hx
   subst hx; cases ht'
  ·simp only [St.set, upd_ne _ _ e] at hx
   obtain ⟨k1, k2⟩ := zwa hx
   obtain ⟨V', hV'⟩ := h.wf.reg s x t' k1 ht'
   exact ⟨V', by show (S.unpub pubs).var t' = _; rw [unpub_var (fun hm => k2 (hno s x t' k1 ht' hm))]; exact hV'⟩
 ·obtain ⟨k1, k2⟩ := zxi hV
  obtain ⟨g1, g2, g3⟩ := h.var s V' k1
  refine ⟨g1, ?_, g3⟩
  rw [pubW_out]
  ·exact g2
  ·intro hm
   simp at hm
   exact k2 (h.inj s t V' V k1 hv hm ▸ ht)
 ·exact h.inj s s' V1 V2 (zxi h1).1 (zxi h2).1 e
 ·simp at hb; subst hb; exact (h.var t V hv).2.2.1 htn
theorem zyp {c0 : Code} {Q : MP} {r t : Tmp} {off n c : Nat} {V : Vr} (pubs : List Tmp) (hno : NoAt S pubs) (hall : (pubs.all fun s => Nat.beq s t || (S.var s).isNone) = true) (hr : S.reg r = some (.slc t off n c)) (hv : S.var t = some V) (ht : pubs.contains t = true)
  (k : ∀ b u1, Ext u u1 → u0.heap.size ≤ b → u1.heap[b]? = some (.cells V.cs.toArray V.ty (0, 0)) → SW P w0 u0 c0 ((S.unpub pubs).set r (.v (.slice (some ⟨b, off, none⟩) n c))) u1 Q) (hlt : Nat.blt t S.n = true := by kernel_rfl) : SW P w0 u0 c0 S u Q := by
 intro B a w u' e hrep
 have hm := List.contains_iff_mem.1 ht
 obtain ⟨g1, g2, g3⟩ := hrep.var t V hv
 have hx : Ext u' (pubW u' w [B t]) := pubW_ext hrep.dat
 have hrep2 := hrep.pub hno hm (fun s hs V' hV' => by
  have := List.all_eq_true.1 hall s hs
  simp only [Bool.or_eq_true, Option.isNone_iff_eq_none] at this
  rcases this with h | h
  ·exact Nat.eq_of_beq_eq_true h
  ·rw [hV'] at h; cases h) hr hv (Nat.le_of_ble_eq_true hlt)
 exact k (B t) (pubW u' w [B t]) (e.trans hx) (g3.1 (Nat.le_of_ble_eq_true hlt)) (by rw [pubW_in (by simp) (zyz g2) hrep.dat.size]; exact g1) B a w _ (Ext.refl _) hrep2
def hideB (u : World) (b : Nat) : World := { u with heap := u.heap.setIfInBounds b hidO }
theorem hideB_size (u : World) (b : Nat) : (hideB u b).heap.size = u.heap.size := by simp [hideB]
theorem hideB_ne {b k : Nat} (h : k ≠ b) : (hideB u b).heap[k]? = u.heap[k]? := by simp only [hideB]; rw [Array.getElem?_setIfInBounds_ne (Ne.symm h)]
theorem hideB_eq {b : Nat} (h : b < u.heap.size) : (hideB u b).heap[b]? = some hidO := by simp [hideB, h]
structure ExtB (b : Nat) (u u' : World) : Prop where
 size : u.heap.size ≤ u'.heap.size
 vis : ∀ (k : Nat) (o : Obj), k ≠ b → u.heap[k]? = some o → o ≠ hidO → u'.heap[k]? = some o
theorem ExtB.ext {b : Nat} {u2 : World} (h : ExtB b u u') (e : Ext u' u2) : ExtB b u u2 := ⟨Nat.le_trans h.size e.size, fun k o hk ho hh => e.vis k o (h.vis k o hk ho hh) hh⟩
theorem ExtB.old {b : Nat} {v : World} (h : ExtB b u u') (e : Ext v u) (hb : v.heap.size ≤ b) : Ext v u' :=
 ⟨Nat.le_trans e.size h.size, fun k o hk hh => h.vis k o (fun e => by have := zyz hk; omega) (e.vis k o hk hh) hh⟩
theorem sw_adopt {c0 : Code} {Q : MP} {r k : Tmp} {n c b : Nat} {cs : List Value} {ty : TypeId} (hr : S.reg r = some (.v (.slice (some ⟨b, 0, none⟩) n c))) (hb : u.heap[b]? = some (.cells cs.toArray ty (0, 0))) (hb0 : u0.heap.size ≤ b) (hk : S.var k = none)
  (kk : ∀ u1, ExtB b u u1 → SW P w0 u0 c0 ⟨S.n, upd S.reg r (some (.slc k 0 n c)), upd S.var k (some ⟨ty, cs⟩)⟩ u1 Q) (hkn : Nat.blt k S.n = true := by kernel_rfl) : SW P w0 u0 c0 S u Q := by
 intro B a w u' e hrep
 have hbu : u'.heap[b]? = some (.cells cs.toArray ty (0, 0)) := e.cells hb
 have hbw : w.heap[b]? = some (.cells cs.toArray ty (0, 0)) := hrep.dat.ext.cells hbu
 have hlt := zyz hbu
 have hno : ∀ s x, S.reg s = some x → x.at? ≠ some k := fun s x hx hc => by
  obtain ⟨V, hV⟩ := hrep.wf.reg s x k hx hc; rw [hk] at hV; cases hV
 have hBt : ∀ t V, S.var t = some V → B t ≠ b := fun t V hV hc => by
  have := (hrep.var t V hV).2.1
  rw [hc, hbu] at this
  injection this with this
  unfold hidO at this; cases this
 have hex : ExtB b u (hideB u' b) := ⟨by rw [hideB_size]; exact e.size, fun k' o hk' ho hh => by rw [hideB_ne hk']; exact e.vis k' o ho hh⟩
 refine kk (hideB u' b) hex (setB B k b) a w _ (Ext.refl _) ⟨⟨fun s x hx => ?_, hrep.regs.size⟩, ⟨fun s x t hx ht => ?_⟩, hrep.defers, fun t V hV => ?_, fun t t' V1 V2 h1 h2 he => ?_, ⟨by rw [hideB_size]; exact hrep.dat.size, fun b' o hb' hh => ?_⟩, hrep.base, ⟨by rw [hideB_size]; exact hrep.grow.size, fun b' hb' hf' => ?_⟩, hrep.bel⟩
 ·by_cases e1 : s = r
  ·subst e1
   simp only [zxb] at hx
   injection hx with hx
   subst hx
   have := hrep.regs.reg s _ hr
   simpa [SV.conc, setB] using this
  ·simp only [upd_ne _ _ e1] at hx
   rw [conc_setB (hno s x hx)]
   exact hrep.regs.reg s x hx
 ·show ∃ V, upd S.var k (some ⟨ty, cs⟩) t = some V
  by_cases e2 : t = k
  ·subst e2; exact ⟨_, zxb _ _ _⟩
  ·rw [upd_ne _ _ e2]
   by_cases e1 : s = r
   ·subst e1
    simp only [zxb] at hx
    injection hx with hx
    subst hx
    injection ht with ht; exact absurd ht.symm e2
   ·simp only [upd_ne _ _ e1] at hx
    exact hrep.wf.reg s x t hx ht
 ·by_cases e2 : t = k
  ·subst e2
   simp only [zxb] at hV
   injection hV with hV
   subst hV
   rw [show setB B t b t = b by simp [setB]]
   exact ⟨hbw, hideB_eq hlt, .mk0 (Nat.le_of_ble_eq_true hkn) hb0⟩
  ·simp only [upd_ne _ _ e2] at hV
   obtain ⟨g1, g2, g3⟩ := hrep.var t V hV
   rw [show setB B k b t = B t by simp [setB, e2]]
   exact ⟨g1, by rw [hideB_ne (hBt t V hV)]; exact g2, g3⟩
 ·by_cases e1 : t = k
  ·by_cases e2 : t' = k
   ·rw [e1, e2]
   ·simp only [upd_ne _ _ e2] at h2
    simp [setB, e1, e2] at he
    exact absurd he.symm (hBt t' V2 h2)
  ·simp only [upd_ne _ _ e1] at h1
   by_cases e2 : t' = k
   ·simp [setB, e1, e2] at he
    exact absurd he (hBt t V1 h1)
   ·simp only [upd_ne _ _ e2] at h2
    simp [setB, e1, e2] at he
    exact hrep.inj t t' V1 V2 h1 h2 he
 ·by_cases e1 : b' = b
  ·subst e1
   rw [hideB_eq hlt] at hb'; injection hb' with hb'; exact absurd hb'.symm hh
  ·rw [hideB_ne e1] at hb'; exact hrep.dat.vis b' o hb' hh
 ·rw [hideB_ne xq]; exact hrep.grow.old b' hb' hf'
theorem Rep.lentBack (h : Rep w0 u0 S B a w u) {t : Tmp} {V V' : Vr} (hv : S.var t = some V) (hd : Dat u' w') (hb : Bel ⟨w, some (0, B t), []⟩ w') (hg : Grow u u') (hw : w'.heap[B t]? = some (.cells V'.cs.toArray V'.ty (0, 0))) {d : Option Tmp} (hfd : ∀ s, d = some s → s < S.n) (v : Value) :
  Rep w0 u0 ((S.setVar t V').put d (some (.v v))) B (a.put d v) w' u' := by
 obtain ⟨v1, v2, v3⟩ := h.var t V hv
 have hwf : (S.setVar t V').Wf := ⟨fun r x s hx hs => by
  obtain ⟨V1, hV1⟩ := h.wf.reg r x s hx hs
  by_cases e : s = t
  ·subst e; exact ⟨V', zxb _ _ _⟩
  ·exact ⟨V1, by show upd S.var t (some V') s = _; rw [upd_ne _ _ e]; exact hV1⟩⟩
 have key : ∀ s V1, (S.setVar t V').var s = some V1 → ∃ V2, S.var s = some V2 := fun s V1 hV => by
  by_cases e : s = t
  ·exact ⟨V, by rw [e]; exact hv⟩
  ·simp only [St.setVar, upd_ne _ _ e] at hV; exact ⟨V1, hV⟩
 have hbs := h.bel
 refine ⟨regOK_put (S := S.setVar t V') ⟨h.regs.reg, h.regs.size⟩ hfd (fun z e => by injection e with e; rw [← e]; rfl), wf_put hwf (fun z t e ht => by injection e with e; rw [← e] at ht; cases ht), by rw [put_defers]; exact h.defers, ?_, ?_, hd, h.base, h.grow.trans hg, ?_⟩
 ·rw [put_var, put_n]
  intro s V1 hV1
  by_cases e : s = t
  ·subst e
   simp only [St.setVar, zxb] at hV1
   injection hV1 with hV1
   subst hV1
   exact ⟨hw, by rw [hg.old _ (zyz v2)]; exact v2, v3⟩
  ·simp only [St.setVar, upd_ne _ _ e] at hV1
   obtain ⟨g1, g2, g3⟩ := h.var s V1 hV1
   refine ⟨?_, by rw [hg.old _ (zyz g2)]; exact g2, g3⟩
   rw [hb.block _ (zyz g1) (fun q hq => ?_) (by simp)]
   ·exact g1
   ·injection hq with hq; injection hq with _ hq
    exact e (h.inj s t V1 V hV1 hv hq.symm)
 ·rw [put_var]
  intro s s' V1 V2 h1 h2 e
  obtain ⟨X, hX⟩ := key s V1 h1
  obtain ⟨Y, hY⟩ := key s' V2 h2
  exact h.inj s s' X Y hX hY e
 ·refine ⟨hb.os.trans hbs.os, hb.tape.trans hbs.tape, hb.output.trans hbs.output, Nat.le_trans hbs.size hb.size, fun k hk hl hf => ?_⟩
  rw [hb.block k (Nat.lt_of_lt_of_le hk hbs.size) (fun q hq => ?_) (by simp)]
  ·exact hbs.block k hk hl hf
  ·injection hq with hq; injection hq with _ hq
   subst hq
   rcases Nat.lt_or_ge t S.n with hs3 | hs3
   ·have h3 := v3.1 hs3
    rw [h.base] at h3
    omega
   ·exact hl _ (v3.2 hs3)
theorem sy_lend (d : Tmp) (f : FuncId) {t len cap : Nat} {V : Vr} (args : List Value) {Φ : Vr → World → Prop} (hv : S.var t = some V)
  (kc : ∀ g w u1, Ext u u1 → Dat u1 w → w.heap[g]? = some (.cells V.cs.toArray V.ty (0, 0)) → u1.heap[g]? = some hidO → Calls P f (Value.slice (some ⟨g, 0, none⟩) len cap :: args).toArray w (PostL u1 w g Φ))
  (k : ∀ V' u1, Ext u u1 → Φ V' u1 → sym P ops w0 u0 true rest ((S.setVar t V').set d (.v (.tuple #[]))) u1 K)
  (hw : Wants ops o S := by exact zwb xv) (hd : o.dst = some d := by kernel_rfl) (hf : (freeB S d && knownB S o) = true := by kernel_rfl) (hk : opK o.op ≠ 2 := by decide)
  (hrun : ∀ B w, (execOp (rho S B) o).run P w = .ok (.enter f (Value.slice (some ⟨B t, 0, none⟩) len cap :: args).toArray) w := by intro _ _; kernel_rfl) : sym P ops w0 u0 true ((o, p) :: rest) S u K := by
 simp only [Bool.and_eq_true] at hf
 refine .inr (.inr (.inl ⟨.inl rfl, fun B a w u' he hrep => ⟨hw B a hrep.regs, ?_⟩⟩))
 obtain ⟨v1, v2, v3⟩ := hrep.var t V hv
 unfold Oper.wp
 rw [exec_rho hrep.regs hf.2 hk, hrun B w]
 simp only [Oper.upon]
 refine Calls.mono (kc (B t) w u' he hrep.dat v1 v2) ?_
 rintro e w' ⟨u2, V', rfl, k1, k2, k3, k4, k5⟩
 have hr2 := hrep.lentBack hv k1 k2 k3 k4 (d := o.dst) (fun s hs => (zxt hd hf.1 s hs).1) (.tuple #[])
 refine ⟨_, B, u2, u2, hr2, fun _ => k3.ext, fun _ => he.trans k3.ext, Ext.refl _, ?_⟩
 have := k V' u2 (he.trans k3.ext) k5
 rw [hd]; exact this
theorem Rep.lentBackS (h : Rep w0 u0 S B a w u) {t : Tmp} {V V' : Vr} (hv : S.var t = some V) (hd : Dat u' w') (hb : Bel ⟨w, some (0, B t), []⟩ w') (hg : Grow u u') (hw : w'.heap[B t]? = some (.cells V'.cs.toArray V'.ty (0, 0))) {d : Option Tmp} (hfd : ∀ s, d = some s → s < S.n) (m cap : Nat) :
  Rep w0 u0 ((S.setVar t V').put d (some (.slc t 0 m cap))) B (a.put d (.slice (some ⟨B t, 0, none⟩) m cap)) w' u' := by
 have h1 := h.lentBack hv hd hb hg hw (d := none) (fun s hs => by cases hs) undef
 have h2 : Rep w0 u0 (S.setVar t V') B a w' u' := h1
 exact h2.set (fun s hs => hfd s hs) (fun z e => by injection e with e; subst e; rfl) (fun z s e hs => by injection e with e; subst e; injection hs with hs; subst hs; exact ⟨V', zxb _ _ _⟩)
theorem sy_lendS (d : Tmp) (f : FuncId) {t len cap : Nat} {V : Vr} (args : List Value) {Φ : Nat → Vr → World → Prop} (hv : S.var t = some V)
  (kc : ∀ g w u1, Ext u u1 → Dat u1 w → w.heap[g]? = some (.cells V.cs.toArray V.ty (0, 0)) → u1.heap[g]? = some hidO → Calls P f (Value.slice (some ⟨g, 0, none⟩) len cap :: args).toArray w (PostS u1 w g cap Φ))
  (k : ∀ m V' u1, Ext u u1 → Φ m V' u1 → sym P ops w0 u0 true rest ((S.setVar t V').set d (.slc t 0 m cap)) u1 K)
  (hw : Wants ops o S := by exact zwb xv) (hd : o.dst = some d := by kernel_rfl) (hf : (freeB S d && knownB S o) = true := by kernel_rfl) (hk : opK o.op ≠ 2 := by decide)
  (hrun : ∀ B w, (execOp (rho S B) o).run P w = .ok (.enter f (Value.slice (some ⟨B t, 0, none⟩) len cap :: args).toArray) w := by intro _ _; kernel_rfl) : sym P ops w0 u0 true ((o, p) :: rest) S u K := by
 simp only [Bool.and_eq_true] at hf
 refine .inr (.inr (.inl ⟨.inl rfl, fun B a w u' he hrep => ⟨hw B a hrep.regs, ?_⟩⟩))
 obtain ⟨v1, v2, v3⟩ := hrep.var t V hv
 unfold Oper.wp
 rw [exec_rho hrep.regs hf.2 hk, hrun B w]
 simp only [Oper.upon]
 refine Calls.mono (kc (B t) w u' he hrep.dat v1 v2) ?_
 rintro e w' ⟨u2, V', m, rfl, k1, k2, k3, k4, k5⟩
 have hr2 := hrep.lentBackS hv k1 k2 k3 k4 (d := o.dst) (fun s hs => (zxt hd hf.1 s hs).1) m cap
 refine ⟨_, B, u2, u2, hr2, fun _ => k3.ext, fun _ => he.trans k3.ext, Ext.refl _, ?_⟩
 have := k m V' u2 (he.trans k3.ext) k5
 rw [hd]; exact this
theorem sy_over (d : Tmp) (x : SV) (k : sym P ops w0 u0 true rest (S.set d x) u K) (hw : Wants ops o S := by exact zwb xv) (hd : o.dst = some d := by kernel_rfl) (hk : opK o.op ≠ 2 := by decide) (hf : (Nat.blt d S.n && knownB S o && fromB ops o S x) = true := by kernel_rfl)
  (hrun : ∀ B w, (execOp (rho S B) o).run P w = .ok (.value (x.conc B)) w := by intro _ _; kernel_rfl) : sym P ops w0 u0 true ((o, p) :: rest) S u K := by
 simp only [Bool.and_eq_true] at hf
 refine .inr (.inr (.inl ⟨.inl rfl, fun B a w u' he hrep => ⟨hw B a hrep.regs, ?_⟩⟩))
 unfold Oper.wp
 rw [exec_rho hrep.regs hf.1.2 hk, hrun B w]
 simp only [Oper.upon]
 have hr2 := hrep.set (d := o.dst) (x := some x) (v := x.conc B) (fun s hs => by rw [hd] at hs; injection hs with hs; subst hs; exact Nat.le_of_ble_eq_true hf.1.1) (fun z e => by injection e with e; rw [e]) (fun z t e ht => by injection e with e; subst e; exact (from_of hf.2).wf hrep.wf t ht)
 refine ⟨_, B, u', u, hr2, fun _ => Ext.refl _, fun _ => Ext.refl _, he, ?_⟩
 rw [hd]; exact k
end
theorem eqI {k : IntKind} {x y : Int} (h : x = y) : SV.v (.int k x) = SV.v (.int k y) := by rw [h]
theorem sy_front {P : Program} {ops : Array Oper} {w0 : Base} {u0 : World} {S : St} {u : World} {o : Oper} {p : List Tmp} {seq : Bool} {rest : List (Oper × List Tmp)} {K : St → World → Prop} (d : Tmp) {T : TypeId} {x h : Operand} {A : Option Addr} {n c : Nat} {k : IntKind} {i : Int} (m : Nat) {sz : Nat} (hT : SlIs P T sz) (hi : i = m) (hm : m ≤ c)
  (kk : sym P ops w0 u0 seq rest (S.set d (.v (.slice A m c))) u K) (hw : Wants ops o S := by exact zwb xv) (hd : o.dst = some d := by kernel_rfl) (hop : o.op = .slice T x none (some h) none := by rfl) (hf : freeB S d = true := by kernel_rfl)
  (hx : evO S x = some (.v (.slice A n c)) := by rfl) (hh : evO S h = some (.v (.int k i)) := by rfl) : sym P ops w0 u0 seq ((o, p) :: rest) S u K := by
 subst hi
 obtain ⟨E, agg, hu, hE⟩ := hT
 refine .inl ⟨by rw [hop]; exact (by decide : (0 : Nat) ≠ 2), .set (.v (.slice A m c)), ⟨zxt hd hf, .inl ⟨(fun t ht => by cases ht), fun B a w u' hr he hdt => ⟨hw B a hr, ?_⟩⟩⟩, ?_⟩
 ·have e1 : (execOp a.eval o).run P w = (do pure (Next.value (← Instr.sliceAt T (a.eval x) none (some (a.eval h)) none)) : Sem Next).run P w := by unfold execOp; rw [hop]; rfl
  rw [e1, ev_eval hr hx, ev_eval hr hh]
  refine run_val ?_
  show (Instr.sliceAt T (.slice A n c) none (some (.int k m)) none).run P w = .ok (.slice A m c) w
  have hs := (hE w).2
  simp [Instr.sliceAt, Instr.slice, Instr.sliceBounds, Instr.sliceBound, asIntOf, run_underlying hu, go_sem, hs, hm]
 ·show sym P ops w0 u0 seq rest (S.put o.dst (some _)) u K
  rw [hd]; exact kk
theorem sy_frontO {P : Program} {ops : Array Oper} {w0 : Base} {u0 : World} {S : St} {u : World} {o : Oper} {p : List Tmp} {seq : Bool} {rest : List (Oper × List Tmp)} {K : St → World → Prop} (d : Tmp) {T : TypeId} {r t : Tmp} {h : Operand} {n c : Nat} {k : IntKind} {i : Int} (m : Nat) {sz : Nat} (hT : SlIs P T sz) (hi : i = m) (hm : m ≤ c)
  (kk : sym P ops w0 u0 seq rest (S.set d (.slc t 0 m c)) u K) (hw : Wants ops o S := by exact zwb xv) (hd : o.dst = some d := by kernel_rfl) (hop : o.op = .slice T (.tmp r) none (some h) none := by rfl) (hf : freeB S d = true := by kernel_rfl)
  (hx : S.reg r = some (.slc t 0 n c) := by rfl) (hh : evO S h = some (.v (.int k i)) := by rfl) : sym P ops w0 u0 seq ((o, p) :: rest) S u K := by
 subst hi
 obtain ⟨E, agg, hu, hE⟩ := hT
 have hl : r ∈ o.looksAt ops := List.mem_append_left _ (List.mem_filterMap.2 ⟨.tmp r, by rw [hop]; simp [Op.operands], rfl⟩)
 refine .inl ⟨by rw [hop]; exact (by decide : (0 : Nat) ≠ 2), .set (.slc t 0 m c), ⟨zxt hd hf, .inl ⟨(fun s hs => ⟨r, hl, _, hx, hs⟩), fun B a w u' hr he hdt => ⟨hw B a hr, ?_⟩⟩⟩, ?_⟩
 ·have e1 : (execOp a.eval o).run P w = (do pure (Next.value (← Instr.sliceAt T (a.eval (.tmp r)) none (some (a.eval h)) none)) : Sem Next).run P w := by unfold execOp; rw [hop]; rfl
  rw [e1, hr.eval hx, ev_eval hr hh]
  refine run_val ?_
  show (Instr.sliceAt T (.slice (some ⟨B t, 0, none⟩) n c) none (some (.int k m)) none).run P w = .ok (.slice (some ⟨B t, 0, none⟩) m c) w
  have hs := (hE w).2
  simp [Instr.sliceAt, Instr.slice, Instr.sliceBounds, Instr.sliceBound, asIntOf, run_underlying hu, go_sem, hs, hm]
 ·show sym P ops w0 u0 seq rest (S.put o.dst (some _)) u K
  rw [hd]; exact kk
def rl0 : RL := ⟨false, ⟨none, 0, 0⟩, ⟨none, 0, 0⟩⟩
def rcs (L : List RL) : List Value := L.flatMap RL.cs
section
variable {u u' w w' : World} {L M : List RL} {r : RL} {l m : List Rat} {q : Rat} {K K' n i c b off : Nat} {x y : Sl}
theorem rcs_cons : rcs (r :: L) = r.cs ++ rcs L := rfl
theorem zyx : (rcs L).length = L.length * 3 := by
 induction L with
 | nil => rfl
 | cons r L ih => rw [rcs_cons, List.length_append, ih, List.length_cons]; simp [RL.cs]; omega
theorem rcs_drop (n : Nat) : (rcs L).drop (n * 3) = rcs (L.drop n) := by
 induction n generalizing L with
 | zero => simp
 | succ n ih =>
  cases L with
  | nil => simp [rcs]
  | cons r L => rw [rcs_cons, show (n + 1) * 3 = r.cs.length + n * 3 by simp [RL.cs]; omega, List.drop_append, Nat.add_sub_cancel_left, ih, List.drop_of_length_le xq]; simp
theorem rcs_get (h : i < L.length) : ((rcs L).drop (i * 3)).take 3 = (L.getD i rl0).cs := by
 rw [rcs_drop, List.drop_eq_getElem_cons h, rcs_cons]
 have : (L[i].cs).length = 3 := rfl
 rw [List.take_append_of_le_length xq, List.take_of_length_le xq]
 simp [h]
def RatsV (u : World) (L : List RL) (l : List Rat) (K : Nat) : Prop := L.length = l.length ∧ ∀ i, i < l.length → RatV u (L.getD i rl0) (l.getD i 0) K
def RatsN (u : World) (L : List RL) (l : List Rat) (K : Nat) : Prop := L.length = l.length ∧ ∀ i, i < l.length → RatN u (L.getD i rl0) (l.getD i 0) K
theorem RatsV.ext (h : RatsV u L l K) (e : Ext u u') : RatsV u' L l K := ⟨h.1, fun i hi => (h.2 i hi).ext e⟩
theorem RatsN.ext (h : RatsN u L l K) (e : Ext u u') : RatsN u' L l K := ⟨h.1, fun i hi => (h.2 i hi).ext e⟩
theorem RatsN.raw (h : RatsN u L l K) : RatsV u L l K := ⟨h.1, fun i hi => (h.2 i hi).raw⟩
theorem RatsV.more (h : RatsV u L l K) (k : K ≤ K') : RatsV u L l K' := ⟨h.1, fun i hi => (h.2 i hi).more k⟩
theorem RatsN.more (h : RatsN u L l K) (k : K ≤ K') : RatsN u L l K' := ⟨h.1, fun i hi => (h.2 i hi).more k⟩
theorem RatsN.nil (u : World) (K : Nat) : RatsN u [] [] K := ⟨rfl, fun i hi => by cases hi⟩
theorem RatsN.snoc (h : RatsN u L l K) (hr : RatN u r q K) : RatsN u (L ++ [r]) (l ++ [q]) K := by
 refine ⟨by simp [h.1], fun i hi => ?_⟩
 simp at hi
 by_cases e : i < l.length
 ·have := h.2 i e
  rw [List.getD_eq_getElem?_getD, List.getElem?_append_left (by rw [h.1]; exact e), List.getD_eq_getElem?_getD (l := l ++ [q]), List.getElem?_append_left e]
  rw [List.getD_eq_getElem?_getD, List.getD_eq_getElem?_getD] at this
  exact this
 ·have : i = l.length := by omega
  subst this
  rw [List.getD_eq_getElem?_getD, List.getElem?_append_right (by rw [h.1]; exact Nat.le_refl _), List.getD_eq_getElem?_getD, List.getElem?_append_right (Nat.le_refl _)]
  simp [h.1]; exact hr
theorem RatsV.take (h : RatsV u L l K) (n : Nat) : RatsV u (L.take n) (l.take n) K := by
 refine ⟨by simp [h.1], fun i hi => ?_⟩
 rw [List.length_take] at hi
 have hi : i < n ∧ i < l.length := by omega
 have := h.2 i hi.2
 rw [List.getD_eq_getElem?_getD, List.getElem?_take_of_lt hi.1, List.getD_eq_getElem?_getD, List.getElem?_take_of_lt hi.1]
 rw [List.getD_eq_getElem?_getD, List.getD_eq_getElem?_getD] at this
 exact this
theorem RatsN.take (h : RatsN u L l K) (n : Nat) : RatsN u (L.take n) (l.take n) K := by
 refine ⟨by simp [h.1], fun i hi => ?_⟩
 rw [List.length_take] at hi
 have hi : i < n ∧ i < l.length := by omega
 have := h.2 i hi.2
 rw [List.getD_eq_getElem?_getD, List.getElem?_take_of_lt hi.1, List.getD_eq_getElem?_getD, List.getElem?_take_of_lt hi.1]
 rw [List.getD_eq_getElem?_getD, List.getD_eq_getElem?_getD] at this
 exact this
theorem RatsN.set (h : RatsN u L l K) (hi : i < l.length) (hr : RatN u r q K) : RatsN u (L.set i r) (l.set i q) K := by
 refine ⟨by simp [h.1], fun j hj => ?_⟩
 simp at hj
 have hL := h.1
 by_cases e : j = i
 ·subst e; simp [hL, hj]; exact hr
 ·have := h.2 j hj
  rw [List.getD_eq_getElem?_getD, List.getElem?_set_ne (Ne.symm e), List.getD_eq_getElem?_getD, List.getElem?_set_ne (Ne.symm e)]
  rw [List.getD_eq_getElem?_getD, List.getD_eq_getElem?_getD] at this
  exact this
theorem RatsN.step (h : RatsN u (L.take i) l K) (hi : i < L.length) (hr : RatN u r q K) : RatsN u ((L.set i r).take (i + 1)) (l ++ [q]) K := by
 have e : (L.set i r).take (i + 1) = L.take i ++ [r] := by
  rw [List.take_set, List.take_succ_eq_append_getElem hi, List.set_append_right _ _ yz]
  simp [Nat.min_eq_left (Nat.le_of_lt hi)]
 rw [e]; exact h.snoc hr
theorem take_snoc {t : List Rat} (h : i < t.length) : t.take i ++ [t.getD i 0] = t.take (i + 1) := by
 rw [List.take_succ_eq_append_getElem h]; simp [h]
theorem rcs_noint {j : Nat} {k : IntKind} {z : Int} : (rcs L)[j]? ≠ some (.int k z) := by
 intro h
 have hj : j < (rcs L).length := (List.getElem?_eq_some_iff.1 h).1
 rw [zyx] at hj
 have h3 : j / 3 < L.length := by omega
 have e3 : (rcs L)[j]? = (((rcs L).drop (j / 3 * 3)).take 3)[j % 3]? := by
  rw [List.getElem?_take_of_lt xq, List.getElem?_drop]; congr 1; omega
 rw [e3, rcs_get h3] at h
 have : j % 3 = 0 ∨ j % 3 = 1 ∨ j % 3 = 2 := by omega
 rcases this with e | e | e <;> rw [e] at h <;> simp [RL.cs] at h
theorem SlR.extB {A : Option Addr} {n c : Nat} {z : List Int} {k : IntKind} {t : TypeId} {M : List RL} (h : SlR k u A n c z) (hb : u.heap[b]? = some (.cells (rcs M).toArray t (0, 0))) (e : ExtB b u u') : SlR k u' A n c z := by
 obtain ⟨h1, h2, h3, h4⟩ := h
 refine ⟨h1, h2, h3, fun hp => ?_⟩
 obtain ⟨b', o, rfl, hlt, hc⟩ := h4 hp
 have hne : b' ≠ b := by
  rintro rfl
  have := hc 0 hp
  rw [cells_at' hb] at this
  have h9 : (rcs M)[o + 0]? = some (.int k (z[0]?.getD 0)) := by simpa using this
  exact rcs_noint h9
 refine ⟨b', o, rfl, Nat.lt_of_lt_of_le hlt e.size, fun i hi => ?_⟩
 have := hc i hi
 unfold World.cell? at this ⊢
 cases hb' : u.heap[b']? with
 | none => simp only [hb'] at this; cases this
 | some ob =>
  simp only [hb'] at this
  cases ob with
  | cells cs t' fr => rw [e.vis b' _ hne hb' (by unfold hidO; exact fun e => by cases e)]; exact this
  | _ => cases this
where
 cells_at' {u : World} {b : Nat} {cs : Array Value} {t : TypeId} (h : u.heap[b]? = some (.cells cs t (0, 0))) {j : Nat} : u.cell? ⟨b, j, none⟩ = cs[j]? := by simp [World.cell?, h]
theorem RatN.extB {t : TypeId} {M : List RL} (h : RatN u r q K) (hb : u.heap[b]? = some (.cells (rcs M).toArray t (0, 0))) (e : ExtB b u u') : RatN u' r q K :=
 ⟨⟨h.1.1, h.1.2.1, h.1.2.2.1.extB hb e, h.1.2.2.2⟩, h.2.1, h.2.2.1.extB hb e, h.2.2.2⟩
theorem RatsN.extB {t : TypeId} {M : List RL} (h : RatsN u L l K) (hb : u.heap[b]? = some (.cells (rcs M).toArray t (0, 0))) (e : ExtB b u u') : RatsN u' L l K := ⟨h.1, fun i hi => (h.2 i hi).extB hb e⟩
def SlC (u : World) (x : Sl) (cs : List Value) : Prop := cs.length = x.n * 3 ∧ x.n ≤ x.c ∧ x.c ≤ maxLen ∧ (0 < x.n → ∃ b o, x.a = some ⟨b, o, none⟩ ∧ ∀ j, j < cs.length → u.cell? ⟨b, o + j, none⟩ = cs[j]?)
theorem SlC.ext {cs : List Value} (h : SlC u x cs) (e : Ext u u') : SlC u' x cs := by
 obtain ⟨h1, h2, h3, h4⟩ := h
 refine ⟨h1, h2, h3, fun hp => ?_⟩
 obtain ⟨b, o, e1, hc⟩ := h4 hp
 refine ⟨b, o, e1, fun j hj => ?_⟩
 have := hc j hj
 rw [List.getElem?_eq_getElem hj] at this ⊢
 exact e.cell this
def PolV (u : World) (x : Sl) (l : List Rat) (K : Nat) : Prop := ∃ L, SlC u x (rcs L) ∧ RatsV u L l K
def PolN (u : World) (x : Sl) (l : List Rat) (K : Nat) : Prop := ∃ L, SlC u x (rcs L) ∧ RatsN u L l K
theorem PolV.ext (h : PolV u x l K) (e : Ext u u') : PolV u' x l K := by obtain ⟨L, h1, h2⟩ := h; exact ⟨L, h1.ext e, h2.ext e⟩
theorem PolN.ext (h : PolN u x l K) (e : Ext u u') : PolN u' x l K := by obtain ⟨L, h1, h2⟩ := h; exact ⟨L, h1.ext e, h2.ext e⟩
theorem PolN.raw (h : PolN u x l K) : PolV u x l K := by obtain ⟨L, h1, h2⟩ := h; exact ⟨L, h1, h2.raw⟩
theorem PolV.more (h : PolV u x l K) (k : K ≤ K') : PolV u x l K' := by obtain ⟨L, h1, h2⟩ := h; exact ⟨L, h1, h2.more k⟩
theorem PolN.more (h : PolN u x l K) (k : K ≤ K') : PolN u x l K' := by obtain ⟨L, h1, h2⟩ := h; exact ⟨L, h1, h2.more k⟩
theorem PolV.len (h : PolV u x l K) : x.n = l.length := by
 obtain ⟨L, h1, h2⟩ := h
 have := h1.1; rw [zyx, h2.1] at this; omega
theorem PolN.len (h : PolN u x l K) : x.n = l.length := h.raw.len
theorem PolV.max (h : PolV u x l K) : l.length ≤ maxLen := by
 have := h.len
 obtain ⟨L, h1, h2⟩ := h
 have := h1.2.1; have := h1.2.2.1; omega
theorem PolV.cap (h : PolV u x l K) : x.n ≤ x.c := by obtain ⟨L, h1, h2⟩ := h; exact h1.2.1
theorem PolN.cap (h : PolN u x l K) : x.n ≤ x.c := h.raw.cap
theorem cells_at {cs : Array Value} {t : TypeId} (h : u.heap[b]? = some (.cells cs t (0, 0))) (j : Nat) : u.cell? ⟨b, j, none⟩ = cs[j]? := by simp [World.cell?, h]
theorem lit_news {cs : List Value} {t : TypeId} (h : u.heap[b]? = some (.cells cs.toArray t (0, 0))) : ∀ (j : Nat) (v : Value), cs[j]? = some v → u.cell? ⟨b, 0 + j, none⟩ = some v := fun j v hv => by
 rw [Nat.zero_add, cells_at h]; simpa using hv
end
namespace Nt
theorem ediv_uniq {z y q r : Int} (hy : y ≠ 0) (h : z = y * q + r) (h0 : 0 ≤ r) (h1 : r < (y.natAbs : Int)) : z / y = q ∧ z % y = r := by
 rcases Int.lt_or_le y 0 with hn | hn
 ·exact (Int.ediv_emod_unique' hn).2 ⟨by omega, h0, by omega⟩
 ·exact (Int.ediv_emod_unique xq).2 ⟨by omega, h0, by omega⟩
theorem mk_div (a : Int) (b : Nat) : (a : Rat) / ((b : Int) : Rat) = mkRat a b := by rw [Rat.mkRat_eq_div]; rfl
def lo (x y : Rat) : Rat := if y < x then y else x
def hi (x y : Rat) : Rat := if x < y then y else x
end Nt
section
variable {u u' w w' : World} {x y : Sl} {i j : IL} {r r' : RL} {N M K L : Nat} {z z' : Int} {q q' : Rat}
theorem IntN.sg (h : IntN u i z K) : z = Nt.sg i.s z.natAbs := by
 rw [h.1]; unfold Nt.sg
 by_cases hz : z < 0
 ·simp [hz]; omega
 ·simp [hz]; omega
theorem RatN.num (h : RatN u r q K) : IntN u ⟨r.s, r.m⟩ q.num K := h.1
theorem RatN.den (h : RatN u r q K) : NatN u r.d q.den K := h.2
end
@[reducible] def IV (a b : RL) : Value := .agg #[.bool a.s, .slice a.m.a a.m.n a.m.c, .slice a.d.a a.d.n a.d.c, .bool b.s, .slice b.m.a b.m.n b.m.c, .slice b.d.a b.d.n b.d.c]
namespace Nt
end Nt
section
variable {u u' w w' : World} {x y : Sl} {i j : IL} {r r' : RL} {N M K L : Nat} {z z' : Int} {q q' : Rat}
end
end Go.Proofs.Ytdmpfhhhlhoeiaa
namespace Go.Proofs.Ytdmpfhhhlhoeiaa
set_option linter.unusedVariables false
namespace Nt
def trimQ : List Rat → List Rat
 | [] => []
 | a :: l => if trimQ l = [] ∧ a = 0 then [] else a :: trimQ l
def co (l : List Rat) (i : Nat) : Rat := l.getD i 0
theorem co_nil (i : Nat) : co [] i = 0 := by simp [co]
theorem co_zero (a : Rat) (l : List Rat) : co (a :: l) 0 = a := rfl
theorem zxq (a : Rat) (l : List Rat) (i : Nat) : co (a :: l) (i + 1) = co l i := by simp [co]
theorem co_ge {l : List Rat} {i : Nat} (h : l.length ≤ i) : co l i = 0 := by simp [co, List.getElem?_eq_none h]
theorem trim_co (l : List Rat) (i : Nat) : co (trimQ l) i = co l i := by
 induction l generalizing i with
 | nil => rfl
 | cons a l ih =>
  unfold trimQ
  split
  ·rename_i h
   rw [co_nil]
   cases i with
   | zero => rw [co_zero, h.2]
   | succ i => rw [zxq, ← ih, h.1, co_nil]
  ·cases i with
   | zero => rfl
   | succ i => rw [zxq, zxq, ih]
def Nrm (l : List Rat) : Prop := trimQ l = l
theorem zxu {l : List Rat} : trimQ l = [] ↔ ∀ i, co l i = 0 := by
 induction l with
 | nil => simp [trimQ, co]
 | cons a l ih =>
  unfold trimQ
  split
  ·rename_i h
   simp
   intro i
   cases i with
   | zero => exact h.2
   | succ i => rw [zxq]; exact ih.1 h.1 i
  ·rename_i h
   simp
   apply Classical.byContradiction
   intro hc
   apply h
   have hc : ∀ i, co (a :: l) i = 0 := fun i => Classical.byContradiction fun k => hc ⟨i, k⟩
   exact ⟨ih.2 fun i => by rw [← zxq a]; exact hc (i + 1), hc 0⟩
theorem trim_ext {l m : List Rat} (h : ∀ i, co l i = co m i) : trimQ l = trimQ m := by
 induction l generalizing m with
 | nil =>
  have : trimQ m = [] := zxu.2 fun i => by rw [← h i, co_nil]
  rw [this]; rfl
 | cons a l ih =>
  cases m with
  | nil =>
   have : trimQ (a :: l) = [] := zxu.2 fun i => by rw [h i, co_nil]
   rw [this]; rfl
  | cons b m =>
   have e0 : a = b := h 0
   have e1 : trimQ l = trimQ m := ih fun i => by rw [← zxq a, ← zxq b]; exact h (i + 1)
   unfold trimQ
   rw [e0, e1]
theorem trim_trim (l : List Rat) : trimQ (trimQ l) = trimQ l := trim_ext fun i => trim_co l i
theorem trim_nrm (l : List Rat) : Nrm (trimQ l) := trim_trim l
theorem zzh (l : List Rat) : (trimQ l).length ≤ l.length := by
 induction l with
 | nil => exact Nat.le_refl _
 | cons a l ih => unfold trimQ; split <;> simp <;> omega
theorem trim_take (l : List Rat) : l.take (trimQ l).length = trimQ l := by
 induction l with
 | nil => rfl
 | cons a l ih =>
  unfold trimQ
  split
  ·rfl
  ·simp [ih]
theorem trim_len_of {l : List Rat} {n : Nat} (hn : n ≤ l.length) (hz : ∀ i, n ≤ i → co l i = 0) (hl : 0 < n → co l (n - 1) ≠ 0) : (trimQ l).length = n := by
 induction l generalizing n with
 | nil => simp at hn; subst hn; rfl
 | cons a l ih =>
  cases n with
  | zero =>
   have : trimQ (a :: l) = [] := zxu.2 fun i => hz i (Nat.zero_le _)
   rw [this]; rfl
  | succ n =>
   have hn' : n ≤ l.length := by simpa using hn
   have e : (trimQ l).length = n := ih hn' (fun i hi => by rw [← zxq a]; exact hz (i + 1) xq) (fun hp => by
    have := hl xq
    rw [show n + 1 - 1 = (n - 1) + 1 by omega, zxq] at this
    exact this)
   unfold trimQ
   rw [if_neg]
   ·simp [e]
   ·rintro ⟨h1, h2⟩
    rw [h1] at e
    have e : n = 0 := by simpa using e.symm
    subst e
    exact hl xq h2
theorem nrm_last {l : List Rat} (h : Nrm l) (hl : l ≠ []) : co l (l.length - 1) ≠ 0 := by
 induction l with
 | nil => exact absurd rfl hl
 | cons a l ih =>
  unfold Nrm trimQ at h
  split at h
  ·cases h
  ·rename_i hc
   injection h with _ h
   cases l with
   | nil =>
    intro k
    apply hc
    exact ⟨rfl, k⟩
   | cons b l =>
    have := ih h (by simp)
    intro k
    apply this
    rw [show (a :: b :: l).length - 1 = ((b :: l).length - 1) + 1 by simp, zxq] at k
    exact k
theorem nrm_of {l : List Rat} (h : l ≠ [] → co l (l.length - 1) ≠ 0) : Nrm l := by
 have e := trim_len_of (l := l) (Nat.le_refl _) (fun i hi => co_ge hi) (fun hp => h (by rintro rfl; simp at hp))
 have := trim_take l
 rw [e, List.take_length] at this
 exact this.symm
theorem co_map (f : Rat → Rat) (hf : f 0 = 0) (l : List Rat) (i : Nat) : co (l.map f) i = f (co l i) := by
 simp only [co, List.getD_eq_getElem?_getD, List.getElem?_map]
 cases l[i]? <;> simp [hf]
theorem co_range (n : Nat) (f : Nat → Rat) (i : Nat) : co ((List.range n).map f) i = if i < n then f i else 0 := by
 simp only [co, List.getD_eq_getElem?_getD, List.getElem?_map]
 by_cases h : i < n
 ·simp [h]
 ·simp [h]
def addQ (l m : List Rat) : List Rat := (List.range (max l.length m.length)).map fun i => co l i + co m i
@[simp] theorem addQ_len (l m : List Rat) : (addQ l m).length = max l.length m.length := by simp [addQ]
theorem addQ_co (l m : List Rat) (i : Nat) : co (addQ l m) i = co l i + co m i := by
 unfold addQ
 rw [co_range]
 split
 ·rfl
 ·rw [co_ge (l := l) xq, co_ge (l := m) xq]; exact (Rat.add_zero 0).symm
def negQ (l : List Rat) : List Rat := l.map fun x => -x
@[simp] theorem negQ_len (l : List Rat) : (negQ l).length = l.length := by simp [negQ]
theorem negQ_co (l : List Rat) (i : Nat) : co (negQ l) i = -co l i := co_map _ (by simp) l i
def derQ (l : List Rat) : List Rat := (List.range (l.length - 1)).map fun i => co l (i + 1) * (((i + 1 : Nat) : Int) : Rat)
@[simp] theorem derQ_len (l : List Rat) : (derQ l).length = l.length - 1 := by simp [derQ]
end Nt
section
open Go.RowKit
variable {u : World} {x : Sl} {l : List Rat} {K : Nat}
end
end Go.Proofs.Ytdmpfhhhlhoeiaa
namespace Go.Proofs.Ytdmpfhhhlhoeiaa
set_option linter.unusedVariables false
namespace Nt
def cmn (x y : Rat) : Rat := if x = 0 then absQ y else if y = 0 then x else absQ (x / (((x / y).num : Int) : Rat))
theorem absQ_ne {x : Rat} (h : x ≠ 0) : absQ x ≠ 0 := by unfold absQ; split <;> grind
theorem num_ne {x : Rat} (h : x ≠ 0) : ((x.num : Int) : Rat) ≠ 0 := by
 intro k
 apply h
 have : x.num = 0 := Rat.intCast_inj.1 (by rw [k]; rfl)
 exact Rat.num_eq_zero.1 this
theorem div_ne {x y : Rat} (hx : x ≠ 0) (hy : y ≠ 0) : x / y ≠ 0 := by
 intro k
 apply hx
 have : x = x / y * y := by grind
 rw [this, k]; grind
theorem cmn_ne {x y : Rat} (h : x ≠ 0 ∨ y ≠ 0) : cmn x y ≠ 0 := by
 unfold cmn
 by_cases hx : x = 0
 ·rw [if_pos hx]; exact absQ_ne (by grind)
 ·rw [if_neg hx]
  by_cases hy : y = 0
  ·rw [if_pos hy]; exact hx
  ·rw [if_neg hy]
   exact absQ_ne (div_ne hx (num_ne (div_ne hx hy)))
theorem den_pos' (q : Rat) : 0 < q.den := Nat.pos_of_ne_zero q.den_nz
def msr (l : List Rat) : Rat := l.foldl cmn 0
theorem msr_snoc (l : List Rat) (y : Rat) : msr (l ++ [y]) = cmn (msr l) y := by simp [msr]
theorem msr_take {l : List Rat} {i : Nat} (h : i < l.length) : msr (l.take (i + 1)) = cmn (msr (l.take i)) (l.getD i 0) := by
 rw [← Go.Proofs.Ytdmpfhhhlhoeiaa.take_snoc h, msr_snoc]
theorem msr_ne {l : List Rat} (h : Nrm l) (hl : 0 < l.length) : msr l ≠ 0 := by
 have h2 := nrm_last h (by rintro rfl; simp at hl)
 have h3 := msr_take (l := l) (i := l.length - 1) xq
 rw [show l.length - 1 + 1 = l.length by omega, List.take_length] at h3
 rw [h3]
 exact cmn_ne (.inr h2)
end Nt
end Go.Proofs.Ytdmpfhhhlhoeiaa
namespace Go.Proofs.Ytdmpfhhhlhoeiaa
set_option linter.unusedVariables false
namespace Nt
def mulQ : List Rat → List Rat → List Rat
 | [], m => []
 | a :: l, m => addQ (m.map (a * ·)) (0 :: mulQ l m)
def sh (f : Nat → Rat) (k : Nat) : Rat := if k = 0 then 0 else f (k - 1)
theorem co_cons0 (l : List Rat) (k : Nat) : co (0 :: l) k = sh (co l) k := by
 cases k with
 | zero => rfl
 | succ k => rw [zxq]; simp [sh]
theorem zxd (a : Rat) (l m : List Rat) (k : Nat) : co (mulQ (a :: l) m) k = a * co m k + sh (co (mulQ l m)) k := by
 show co (addQ (m.map (a * ·)) (0 :: mulQ l m)) k = _
 rw [addQ_co, co_map _ (by simp), co_cons0]
theorem mulQ_nil (m : List Rat) (k : Nat) : co (mulQ [] m) k = 0 := rfl
def inn (R : List Rat) (i : Nat) (x : Rat) (B : List Rat) : Nat → List Rat
 | 0 => R
 | j + 1 => (inn R i x B j).set (i + j) (co (inn R i x B j) (i + j) + x * co B j)
def outQ (A B : List Rat) (N : Nat) : Nat → List Rat
 | 0 => List.replicate N 0
 | i + 1 => inn (outQ A B N i) i (co A i) B B.length
@[simp] theorem inn_len (R : List Rat) (i : Nat) (x : Rat) (B : List Rat) (j : Nat) : (inn R i x B j).length = R.length := by
 induction j with
 | zero => rfl
 | succ j ih => simp [inn, ih]
@[simp] theorem outQ_len (A B : List Rat) (N i : Nat) : (outQ A B N i).length = N := by
 induction i with
 | zero => simp [outQ]
 | succ i ih => simp [outQ, ih]
theorem co_set {l : List Rat} {i : Nat} (h : i < l.length) (x : Rat) (k : Nat) : co (l.set i x) k = if k = i then x else co l k := by
 unfold co
 simp only [List.getD_eq_getElem?_getD, List.getElem?_set]
 by_cases e : i = k
 ·subst e; simp [h]
 ·rw [if_neg e, if_neg (Ne.symm e)]
theorem mulQ_zero {l : List Rat} (h : ∀ i, co l i = 0) (m : List Rat) (k : Nat) : co (mulQ l m) k = 0 := by
 induction l generalizing k with
 | nil => rfl
 | cons a l ih =>
  have ha : a = 0 := h 0
  have hl : ∀ i, co l i = 0 := fun i => by rw [← zxq a]; exact h (i + 1)
  rw [zxd, ha]
  unfold sh
  split
  ·grind
  ·rw [ih hl]; grind
theorem zwd {l l' m m' : List Rat} (h : ∀ i, co l i = co l' i) (h2 : ∀ i, co m i = co m' i) (k : Nat) : co (mulQ l m) k = co (mulQ l' m') k := by
 induction l generalizing l' k with
 | nil =>
  rw [mulQ_nil, mulQ_zero (fun i => by rw [← h i, co_nil])]
 | cons a l ih =>
  cases l' with
  | nil => rw [mulQ_nil, mulQ_zero (fun i => by rw [h i, co_nil])]
  | cons b l' =>
   have hab : a = b := h 0
   have hl : ∀ i, co l i = co l' i := fun i => by rw [← zxq a, ← zxq b]; exact h (i + 1)
   rw [zxd, zxd, hab, h2]
   unfold sh
   split
   ·rfl
   ·rw [ih hl]
theorem mulQ_scale_l (c : Rat) (l m : List Rat) (k : Nat) : co (mulQ (l.map (c * ·)) m) k = c * co (mulQ l m) k := by
 induction l generalizing k with
 | nil => rw [List.map_nil, mulQ_nil]; grind
 | cons a l ih =>
  rw [List.map_cons, zxd, zxd]
  unfold sh
  split
  ·grind
  ·rw [ih]; grind
theorem mulQ_scale_r (c : Rat) (l m : List Rat) (k : Nat) : co (mulQ l (m.map (c * ·))) k = c * co (mulQ l m) k := by
 induction l generalizing k with
 | nil => rw [mulQ_nil, mulQ_nil]; grind
 | cons a l ih =>
  rw [zxd, zxd, co_map _ (by simp)]
  unfold sh
  split
  ·grind
  ·rw [ih]; grind
theorem mulQ_zero_r {m : List Rat} (h : ∀ i, co m i = 0) (l : List Rat) (k : Nat) : co (mulQ l m) k = 0 := by
 have := mulQ_scale_r 0 l m k
 rw [Rat.zero_mul] at this
 rw [← this]
 exact zwd (fun _ => rfl) (fun i => by rw [co_map _ (by simp), h]; simp) k
def kk (W t : Nat) : Nat := t * W + 2
end Nt
end Go.Proofs.Ytdmpfhhhlhoeiaa
namespace Go.Proofs.Ytdmpfhhhlhoeiaa
set_option linter.unusedVariables false
namespace Nt
def Wh (x : Rat) (C : Nat) : Prop := ∃ z : Int, x = (z : Rat) ∧ z.natAbs ≤ 2 ^ C
def WhL (l : List Rat) (C : Nat) : Prop := ∀ i, Wh (co l i) C
def dg (C : Nat) : Nat := C / 32 + 1
theorem Wh.more {x : Rat} {A C : Nat} (h : Wh x A) (k : A ≤ C) : Wh x C := by
 obtain ⟨z, e, b⟩ := h
 exact ⟨z, e, Nat.le_trans b (Nat.pow_le_pow_right xq k)⟩
theorem WhL.more {l : List Rat} {A C : Nat} (h : WhL l A) (k : A ≤ C) : WhL l C := fun i => (h i).more k
theorem Wh.zero (C : Nat) : Wh 0 C := ⟨0, rfl, Nat.zero_le _⟩
theorem Wh.one (C : Nat) : Wh 1 C := ⟨1, rfl, Nat.pos_of_ne_zero (by exact Nat.ne_of_gt (Nat.pow_pos xq))⟩
theorem Wh.mul {x y : Rat} {A B : Nat} (h : Wh x A) (k : Wh y B) : Wh (x * y) (A + B) := by
 obtain ⟨z, rfl, b⟩ := h
 obtain ⟨v, rfl, c⟩ := k
 exact ⟨z * v, by rw [Rat.intCast_mul], by rw [Int.natAbs_mul, Nat.pow_add]; exact Nat.mul_le_mul b c⟩
theorem Wh.sub {x y : Rat} {A : Nat} (h : Wh x A) (k : Wh y A) : Wh (x - y) (A + 1) := by
 obtain ⟨z, rfl, b⟩ := h
 obtain ⟨v, rfl, c⟩ := k
 exact ⟨z - v, by rw [Rat.intCast_sub], by rw [Nat.pow_succ]; omega⟩
theorem Wh.add {x y : Rat} {A : Nat} (h : Wh x A) (k : Wh y A) : Wh (x + y) (A + 1) := by
 obtain ⟨z, rfl, b⟩ := h
 obtain ⟨v, rfl, c⟩ := k
 exact ⟨z + v, by rw [Rat.intCast_add], by rw [Nat.pow_succ]; omega⟩
theorem pwTwo (k : Nat) : pw k = ((2 ^ (32 * k) : Nat) : Int) := by
 induction k with
 | zero => rfl
 | succ k ih =>
  rw [show 32 * (k + 1) = 32 * k + 32 by omega, Nat.pow_add, Int.natCast_mul, ← ih]
  show 4294967296 * pw k = _
  rw [Int.mul_comm]; rfl
theorem Wh.rs {x : Rat} {C : Nat} (h : Wh x C) : rs x ≤ dg C := by
 obtain ⟨z, rfl, b⟩ := h
 refine rs_int ?_ (by unfold dg; omega)
 refine dl_le ?_
 rw [pwTwo]
 refine Int.ofNat_lt.2 (Nat.lt_of_le_of_lt b (Nat.pow_lt_pow_right xq (by unfold dg; omega)))
theorem Wh.quo {x y : Rat} {A B : Nat} (h : Wh x A) (k : Wh y B) (hy : y ≠ 0) : Wh ((x / y).num : Rat) A ∧ Wh (((x / y).den : Nat) : Int) B := by
 obtain ⟨z, rfl, b⟩ := h
 obtain ⟨v, rfl, c⟩ := k
 have hv : v ≠ 0 := by rintro rfl; exact hy rfl
 rw [← div_mk2 hv]
 have hp : 0 < v.natAbs := Int.natAbs_pos.2 hv
 refine ⟨⟨_, rfl, ?_⟩, ⟨_, rfl, ?_⟩⟩
 ·rw [(mk_num hp).1, quoI_abs]
  exact Nat.le_trans (Nat.div_le_self _ _) b
 ·rw [(mk_den hp).1, Int.natAbs_natCast]
  exact Nat.le_trans (Nat.div_le_self _ _) c
theorem co_take {l : List Rat} {n i : Nat} (h : i < n) : co (l.take n) i = l.getD i 0 := by
 unfold co
 rw [List.getD_eq_getElem?_getD, List.getElem?_take_of_lt h, ← List.getD_eq_getElem?_getD]
def mulN (n : Nat) (l : List Rat) (q : Rat) : List Rat := (List.range l.length).map fun i => if i < n then co l i * q else co l i
@[simp] theorem mulN_len (n : Nat) (l : List Rat) (q : Rat) : (mulN n l q).length = l.length := by simp [mulN]
theorem mulN_co (n : Nat) (l : List Rat) (q : Rat) (i : Nat) : co (mulN n l q) i = if i < n then co l i * q else co l i := by
 unfold mulN
 rw [co_range]
 by_cases h : i < l.length
 ·rw [if_pos h]
 ·rw [if_neg h, co_ge xq]
  split
  ·exact (Rat.zero_mul q).symm
  ·rfl
theorem WhL.map {l : List Rat} {q : Rat} {A B : Nat} (h : WhL l A) (k : Wh q B) : WhL (l.map (· * q)) (A + B) := fun i => by
 rw [co_map _ (Rat.zero_mul q)]; exact (h i).mul k
theorem WhL.mulN {l : List Rat} {q : Rat} {A B : Nat} (h : WhL l A) (k : Wh q B) (n : Nat) : WhL (mulN n l q) (A + B) := fun i => by
 rw [mulN_co]; split
 ·exact (h i).mul k
 ·exact (h i).more xq
theorem WhL.set {l : List Rat} {x : Rat} {A : Nat} (h : WhL l A) (k : Wh x A) (i : Nat) : WhL (l.set i x) A := fun j => by
 by_cases hi : i < l.length
 ·rw [co_set hi]; split
  ·exact k
  ·exact h j
 ·rw [List.set_eq_of_length_le xq]; exact h j
def subN (a : Nat) (c : Rat) (q t : List Rat) : Nat → List Rat
 | 0 => t
 | j + 1 => (subN a c q t j).set (a + j) ((subN a c q t j).getD (a + j) 0 - c * q.getD j 0)
@[simp] theorem subN_len (a : Nat) (c : Rat) (q t : List Rat) (j : Nat) : (subN a c q t j).length = t.length := by
 induction j with
 | zero => rfl
 | succ j ih => simp [subN, ih]
theorem subN_co {a : Nat} {c : Rat} {q t : List Rat} {j : Nat} (h : a + j ≤ t.length) (k : Nat) : co (subN a c q t j) k = co t k - (if a ≤ k ∧ k < a + j then c * co q (k - a) else 0) := by
 induction j with
 | zero => rw [if_neg xq]; show co t k = _; grind
 | succ j ih =>
  have ih := ih xq
  unfold subN
  rw [co_set yz]
  by_cases e : k = a + j
  ·rw [if_pos e]
   subst e
   show co (subN a c q t j) (a + j) - c * co q j = _
   rw [ih, if_neg xq, if_pos xq, show a + j - a = j by omega]
   grind
  ·rw [if_neg e, ih]
   by_cases c : a ≤ k ∧ k < a + j
   ·rw [if_pos c, if_pos xq]
   ·rw [if_neg c, if_neg xq]
theorem WhL.subN {t q : List Rat} {c : Rat} {D : Nat} (ht : WhL t D) (hc : ∀ i, Wh (c * co q i) D) {a j : Nat} (h : a + j ≤ t.length) : WhL (subN a c q t j) (D + 1) := fun k => by
 rw [subN_co h]
 split
 ·exact (ht k).sub (hc _)
 ·exact (ht k).sub (Wh.zero D)
theorem mulQ_set {s : List Rat} {a : Nat} (ha : a < s.length) (h0 : co s a = 0) (x : Rat) (q : List Rat) (k : Nat) : co (mulQ (s.set a x) q) k = co (mulQ s q) k + (if a ≤ k then x * co q (k - a) else 0) := by
 induction s generalizing a k with
 | nil => simp at ha
 | cons b s ih =>
  cases a with
  | zero =>
   have hb : b = 0 := h0
   rw [List.set_cons_zero, zxd, zxd, hb, if_pos (Nat.zero_le _), Nat.sub_zero]
   grind
  | succ a =>
   rw [List.set_cons_succ, zxd, zxd]
   unfold sh
   cases k with
   | zero => rw [if_pos rfl, if_pos rfl, if_neg xq]; grind
   | succ k =>
    simp only [Nat.add_one_ne_zero, if_false, Nat.add_sub_cancel]
    rw [ih (by simpa using ha) (by rw [← zxq b]; exact h0)]
    by_cases c : a ≤ k
    ·rw [if_pos c, if_pos xq, show k + 1 - (a + 1) = k - a by omega]; grind
    ·rw [if_neg c, if_neg xq]; grind
structure DivI (p q : List Rat) (n : Nat) (s t : List Rat) (f : Rat) : Prop where
 sl : s.length = p.length - q.length + 1
 tl : t.length = p.length
 tz : ∀ i, n ≤ i → co t i = 0
 sz : ∀ i, i + q.length ≤ n → co s i = 0
 f0 : f ≠ 0
 eq : ∀ i, f * co p i = co (mulQ s q) i + co t i
theorem DivI.begin (p q : List Rat) : DivI p q p.length (List.replicate (p.length - q.length + 1) 0) p 1 := by
 have hz : ∀ i, co (List.replicate (p.length - q.length + 1) (0 : Rat)) i = 0 := fun i => by
  unfold co; rw [List.getD_eq_getElem?_getD, List.getElem?_replicate]; split <;> rfl
 refine ⟨by simp, rfl, fun i hi => co_ge hi, fun i _ => hz i, by decide, fun i => ?_⟩
 rw [mulQ_zero hz]; grind
theorem DivI.step {p q s t : List Rat} {n : Nat} {f : Rat} (h : DivI p q n s t f) (hn : n ≤ p.length) (hqn : q.length ≤ n) (hq : 0 < q.length) (hl : co q (q.length - 1) ≠ 0) {x d : Rat} (hd : d ≠ 0) (hx : co t (n - 1) * d = x * co q (q.length - 1)) :
  DivI p q (n - 1) ((s.map (· * d)).set (n - q.length) x) (subN (n - q.length) x q (t.map (· * d)) q.length) (f * d) := by
 have hsl := h.sl
 have htl := h.tl
 have ht : ∀ k, co (subN (n - q.length) x q (t.map (· * d)) q.length) k = co t k * d - (if n - q.length ≤ k ∧ k < n - q.length + q.length then x * co q (k - (n - q.length)) else 0) := fun k => by
  rw [subN_co yz, co_map _ (Rat.zero_mul d)]
 refine ⟨by simp [hsl], by simp [htl], fun i hi => ?_, fun i hi => ?_, fun k => ?_, fun i => ?_⟩
 ·rw [ht]
  by_cases e : i = n - 1
  ·subst e
   rw [if_pos xq, show n - 1 - (n - q.length) = q.length - 1 by omega, hx]; grind
  ·rw [h.tz i xq, if_neg xq]; grind
 ·rw [co_set yz, if_neg xq, co_map _ (Rat.zero_mul d), h.sz i xq]; grind
 ·rcases Rat.mul_eq_zero.1 k with k | k
  ·exact h.f0 k
  ·exact hd k
 ·have hs0 : co (s.map (· * d)) (n - q.length) = 0 := by rw [co_map _ (Rat.zero_mul d), h.sz _ xq, Rat.zero_mul]
  rw [mulQ_set yz hs0, ht]
  have e1 : s.map (· * d) = s.map (d * ·) := by congr 1; funext x; exact Rat.mul_comm _ _
  rw [e1, mulQ_scale_l]
  have hh := h.eq i
  by_cases c : n - q.length ≤ i
  ·rw [if_pos c]
   by_cases c2 : i < n - q.length + q.length
   ·rw [if_pos ⟨c, c2⟩]; grind
   ·rw [if_neg xq, co_ge (l := q) xq]; grind
  ·rw [if_neg c, if_neg xq]; grind
theorem DivI.less {p q s t : List Rat} {n m : Nat} {f : Rat} (h : DivI p q n s t f) (hm : m ≤ n) (hz : ∀ i, m ≤ i → co t i = 0) : DivI p q m s t f := ⟨h.sl, h.tl, hz, fun i hi => h.sz i xq, h.f0, h.eq⟩
theorem co_takez {t : List Rat} {n : Nat} (h : ∀ i, n ≤ i → co t i = 0) (i : Nat) : co (t.take n) i = co t i := by
 by_cases c : i < n
 ·rw [co_take c]; rfl
 ·rw [h i xq, co_ge (by rw [List.length_take]; omega)]
theorem WhL.take {t : List Rat} {C : Nat} (h : WhL t C) (n : Nat) : WhL (t.take n) C := fun i => by
 by_cases c : i < n
 ·rw [co_take c]; exact h i
 ·rw [co_ge (by rw [List.length_take]; omega)]; exact Wh.zero C
theorem quo_step {x y : Rat} (hy : y ≠ 0) : x * ((((x / y).den : Nat) : Int) : Rat) = (((x / y).num : Int) : Rat) * y ∧ ((((x / y).den : Nat) : Int) : Rat) ≠ 0 := by
 have hd : ((((x / y).den : Nat) : Int) : Rat) ≠ 0 := Ne.symm (Rat.ne_of_lt (Rat.natCast_pos.2 (den_pos' (x / y))))
 have e : x / y = (((x / y).num : Int) : Rat) / ((((x / y).den : Nat) : Int) : Rat) := by
  have h := (Rat.mkRat_self (x / y)).symm
  rw [Rat.mkRat_eq_div] at h
  exact h
 refine ⟨?_, hd⟩
 generalize (((x / y).num : Int) : Rat) = N at *
 generalize ((((x / y).den : Nat) : Int) : Rat) = D at *
 have h1 : x = N / D * y := by rw [← e]; grind
 rw [h1]; grind
structure DivR (p q s t : List Rat) (f : Rat) : Prop where
 f0 : f ≠ 0
 eq : ∀ i, f * co p i = co (mulQ s q) i + co t i
 lt : t.length < q.length
 tl : t.length ≤ p.length
 sl : s.length ≤ p.length + 1
theorem DivI.done {p q s t : List Rat} {n : Nat} {f : Rat} (h : DivI p q n s t f) (hn : n < q.length) : DivR p q s (t.take n) f := ⟨h.f0, fun i => by rw [co_takez h.tz]; exact h.eq i, by rw [List.length_take]; omega, by rw [List.length_take, h.tl]; omega, by rw [h.sl]; omega⟩
end Nt
section
open Go.RowKit
variable {u u' : World} {L : List RL} {X : List Value} {r : RL} {i : Nat} {l : List Rat} {K C : Nat}
theorem RatsN.fit (h : RatsN u L l K) (k : Nt.WhL l C) : RatsN u L l (Nt.dg C) := ⟨h.1, fun i hi => (h.2 i hi).fit (k i).rs⟩
end
end Go.Proofs.Ytdmpfhhhlhoeiaa

/- Contracts of nat: digit (one digit of a long division, in place). -/
import Derived.Test.YtnedhbidmfoegaaGreatNatG
import Derived.Test.YtnedhbidmfoegaaGreatDivB
import Derived.Deep.DeepCutAuto
import Derived.Deep.CutBlock
import Derived.BigRegion
namespace Go.Proofs.YtnedhbidmfoegaaGreat
open Go.RowKit
set_option linter.unusedVariables false

/-- From w to w' only block g has changed. -/
structure Only (g : Nat) (w w' : World) : Prop where
  below : Below g w w'
  size : w'.heap.size = w.heap.size
  block : ∀ b, b ≠ g → w'.heap[b]? = w.heap[b]?
theorem Only.refl (g : Nat) (w : World) : Only g w w := ⟨Below.refl _ _, rfl, fun _ _ => rfl⟩
theorem Only.drewN (g : Nat) (w : World) (q : Nat) : Only g w (w.drewN q) := ⟨⟨rfl, rfl, rfl, Nat.le_refl _, fun _ _ => rfl⟩, rfl, fun _ _ => rfl⟩
theorem Only.trans {g : Nat} {w w1 w2 : World} (h : Only g w w1) (k : Only g w1 w2) : Only g w w2 := ⟨h.below.trans k.below, k.size.trans h.size, fun b hb => (k.block b hb).trans (h.block b hb)⟩
theorem Only.setCell {g : Nat} {w w1 : World} (h : Only g w w1) (i : Nat) (u : Value) : Only g w (w1.setCell ⟨g, i, none⟩ u) :=
  ⟨h.below.setCell (p := ⟨g, i, none⟩) (Nat.le_refl _) u, by have := h.size; simpa [World.setCell] using this, fun b hb => (Below.heap_setCell w1 ⟨g, i, none⟩ u b hb).trans (h.block b hb)⟩
theorem KBlk.only {k : IntKind} {w w' : World} {g b : Nat} {t : TypeId} {l : List Int} (h : KBlk k w b t l) (ho : Only g w w') (hb : b ≠ g) : KBlk k w' b t l := (ho.block b hb).trans h
theorem Below.only {B g : Nat} {w w1 w2 : World} (h : Below B w w1) (k : Only g w1 w2) (hg : B ≤ g) : Below B w w2 :=
  ⟨k.below.os.trans h.os, k.below.tape.trans h.tape, k.below.output.trans h.output, by have := h.size; have := k.size; omega, fun b hb => (k.block b (by omega)).trans (h.block b hb)⟩

namespace Nt
theorem or_top {x y : Int} (h0 : 0 ≤ x) (h1 : x < 4294967296) (k0 : 0 ≤ y) (k1 : y < 4294967296) : bits .or .u64 (x * 4294967296) y = x * 4294967296 + y :=
  bits_join .u64 64 (by decide) (fun n h0 h1 => by rw [IntKind.wrap_u64]; omega) 32 _ _ (by omega) (by omega) (by omega) k0 (by omega) (by omega)
end Nt
namespace Nt
/-- What is known of the true digit. -/
structure DivFacts (j n : Nat) (L v : List Int) (top u2 v1 v2 : Int) : Prop where
  vp : 0 < val v
  eU : valTo (L.drop j) (n + 3) = (top * 4294967296 + u2) * pw n + valTo (L.drop j) n
  eV : val v = (v1 * 4294967296 + v2) * pw n + valTo v n
  t0 : 0 ≤ valTo (L.drop j) (n + 3) / val v
  t1 : valTo (L.drop j) (n + 3) / val v < 4294967296
  tU : valTo (L.drop j) (n + 3) < (valTo (L.drop j) (n + 3) / val v + 1) * val v
  tb : top < v1 * 4294967296 + 4294967296
  ta : (valTo (L.drop j) (n + 3) / val v) * (v1 * 4294967296 + v2) ≤ top * 4294967296 + u2
theorem div_facts {j n : Nat} {L v : List Int} {top u0 u1 u2 v1 v2 : Int} (dv : Dig v) (dL : Dig L) (hv : v.length = n + 2) (hj : j + (n + 2) + 1 ≤ L.length) (e1 : v1 = v[n + 1]?.getD 0) (e2 : v2 = v[n]?.getD 0) (f0 : u0 = L[j + (n + 2)]?.getD 0) (f1 : u1 = L[j + (n + 1)]?.getD 0) (f2 : u2 = L[j + n]?.getD 0) (ht : top = u0 * 4294967296 + u1) (h1 : 2147483648 ≤ v1) (hU : valTo (L.drop j) (n + 3) < 4294967296 * val v) : DivFacts j n L v top u2 v1 v2 := by
  have hp := pw_pos n
  have eV : val v = (v1 * 4294967296 + v2) * pw n + valTo v n := by
    rw [← valTo_all v (n := n + 2) (by omega), valTo_succ, valTo_succ, ← e1, ← e2, pw]; grind
  have eU : valTo (L.drop j) (n + 3) = (top * 4294967296 + u2) * pw n + valTo (L.drop j) n := by
    rw [valTo_succ, valTo_succ, valTo_succ, drop_getD, drop_getD, drop_getD, ← f0, ← f1, ← f2, ht]; simp only [pw]; grind
  have q2 := dv.at n
  have p0 := dL.at (j + (n + 2))
  have p1 := dL.at (j + (n + 1))
  have p2 := dL.at (j + n)
  rw [← e2] at q2
  rw [← f0] at p0
  rw [← f1] at p1
  rw [← f2] at p2
  have hv0 := valTo_nonneg dv n
  obtain ⟨t0, t1, _, t3, t4⟩ := true_digit hp eV hv0 eU (valTo_nonneg (dL.drop j) n) (valTo_lt (dL.drop j) n) (by omega) (by omega) hU
  refine ⟨?_, eU, eV, t0, t1, t3, ?_, t4⟩
  · have : 0 < (v1 * 4294967296 + v2) * pw n := Int.mul_pos (by omega) hp
    omega
  · have h2 : valTo v n < pw n := valTo_lt dv n
    have h3 := valTo_nonneg (dL.drop j) n
    have h4 : 4294967296 * val v < 4294967296 * ((v1 * 4294967296 + v2 + 1) * pw n) := by
      rw [eV, Int.add_mul _ 1]; omega
    have h5 : (top * 4294967296 + u2) * pw n < (4294967296 * (v1 * 4294967296 + v2 + 1)) * pw n := by
      rw [Int.mul_assoc 4294967296]; omega
    have h6 := Int.lt_of_mul_lt_mul_right h5 (by omega)
    omega
end Nt
/-- What digit answers: the quotient's digit; u became the remainder. -/
def DigitF (w0 w : World) (g j N : Nat) (L v : List Int) (q : Int) : Prop := ∃ L', KBlk .u32 w g 105 L' ∧ L'.length = L.length ∧ Nt.Dig L' ∧ (∀ k, k < j ∨ j + N + 1 ≤ k → L'[k]? = L[k]?) ∧ 0 ≤ q ∧ q < 4294967296 ∧ Nt.valTo (L.drop j) (N + 1) = q * Nt.val v + Nt.valTo (L'.drop j) (N + 1) ∧ Nt.valTo (L'.drop j) (N + 1) < Nt.val v ∧ Only g w0 w

/-- The world of digit: u is still L, v is v. -/
def DigW (w' w : World) (g gv : Nat) (L v : List Int) : Prop := KBlk .u32 w' g 105 L ∧ KBlk .u32 w' gv 105 v ∧ Only g w w'
structure DigS (wr w : World) (g gv j n i : Nat) (L v S : List Int) (q cr bo : Int) : Prop where
  ku : KBlk .u32 wr g 105 S
  kv : KBlk .u32 wr gv 105 v
  only : Only g w wr
  len : S.length = L.length
  dig : Nt.Dig S
  sum : Nt.valTo (S.drop j) i + q * Nt.valTo v i = Nt.valTo (L.drop j) i + (cr + bo) * Nt.pw i
  same : ∀ k, k < j ∨ j + i ≤ k → S[k]? = L[k]?
theorem Nt.sub_low2 {x r bo : Int} (hx : 0 ≤ x) (hx' : x < 4294967296) (hr : 0 ≤ r) (hr' : r < 4294967296) (hb : 0 ≤ bo) (hb' : bo ≤ 1) :
    IntKind.u64.wrap (IntKind.u64.wrap (x - r) - bo) % 4294967296 = (x - r - bo) % 4294967296 ∧ IntKind.u64.wrap (IntKind.u64.wrap (x - r) - bo) / 9223372036854775808 = (if x - r - bo < 0 then 1 else 0) := by
  rw [IntKind.wrap_u64, IntKind.wrap_u64]
  split <;> omega
theorem DigS.next {wr w : World} {g gv j n i : Nat} {L v S : List Int} {q cr bo d x p t : Int} (h : DigS wr w g gv j n i L v S q cr bo) (hne : gv ≠ g) (hj : j + (n + 2) + 1 ≤ L.length) (hi : i < n + 2) (hd : d = v[i]?.getD 0) (hx : x = S[j + i]?.getD 0) (hp : p = q * d + cr) (ht : t = x - p % 4294967296 - bo) (t0 : -4294967296 ≤ t) (t1 : t < 4294967296) :
    DigS (wr.setCell ⟨g, j + i, none⟩ (.int .u32 (t % 4294967296))) w g gv j n (i + 1) L v (S.set (j + i) (t % 4294967296)) q (p / 4294967296) (if t < 0 then 1 else 0) := by
  refine ⟨h.ku.set _ _, h.kv.far (p := ⟨g, j + i, none⟩) hne _, h.only.setCell _ _, by rw [List.length_set]; exact h.len, h.dig.set _ (by omega), ?_, ?_⟩
  · rw [Nt.drop_set]
    refine Nt.ms_step (M := S.drop j) (u := L.drop j) (v := v) (p := p) (t := t) (by have := h.len; simp; omega) h.sum ?_ (by rw [← hd]; exact hp) (by rw [Nt.drop_getD, ← hx]; exact ht) t0 t1
    rw [Nt.drop_getD, Nt.drop_getD, h.same (j + i) (.inr (Nat.le_refl _))]
  · intro k hk
    rw [List.getElem?_set_ne (by omega)]
    exact h.same k (by omega)
structure DigA (wr w : World) (g gv j n i : Nat) (M v R : List Int) (c : Int) : Prop where
  ku : KBlk .u32 wr g 105 R
  kv : KBlk .u32 wr gv 105 v
  only : Only g w wr
  len : R.length = M.length
  dig : Nt.Dig R
  sum : Nt.valTo (R.drop j) i + c * Nt.pw i = Nt.valTo (M.drop j) i + Nt.valTo v i
  same : ∀ k, k < j ∨ j + i ≤ k → R[k]? = M[k]?
theorem DigA.next {wr w : World} {g gv j n i : Nat} {M v R : List Int} {c d x t : Int} (h : DigA wr w g gv j n i M v R c) (hne : gv ≠ g) (hj : j + (n + 2) + 1 ≤ M.length) (hi : i < n + 2) (hd : d = v[i]?.getD 0) (hx : x = R[j + i]?.getD 0) (ht : t = x + d + c) :
    DigA (wr.setCell ⟨g, j + i, none⟩ (.int .u32 (t % 4294967296))) w g gv j n (i + 1) M v (R.set (j + i) (t % 4294967296)) (t / 4294967296) := by
  refine ⟨h.ku.set _ _, h.kv.far (p := ⟨g, j + i, none⟩) hne _, h.only.setCell _ _, by rw [List.length_set]; exact h.len, h.dig.set _ (by omega), ?_, ?_⟩
  · rw [Nt.drop_set]
    refine Nt.ab_step (M := M.drop j) (R := R.drop j) (v := v) (t := t) (by have := h.len; simp; omega) h.sum ?_ (by rw [Nt.drop_getD, ← hx, ← hd]; exact ht)
    rw [Nt.drop_getD, Nt.drop_getD, h.same (j + i) (.inr (Nat.le_refl _))]
  · intro k hk
    rw [List.getElem?_set_ne (by omega)]
    exact h.same k (by omega)
/-- The subtraction came out: no borrow. -/
theorem DigS.done {wr w : World} {g gv j n : Nat} {L v S : List Int} {q cr bo u0 t T top v1 v2 u2 : Int} (h : DigS wr w g gv j n (n + 2) L v S q cr bo) (hj : j + (n + 2) + 1 ≤ L.length) (hv : v.length = n + 2) (dv : Nt.Dig v) (dL : Nt.Dig L) (hu : u0 = L[j + (n + 2)]?.getD 0) (ht : t = u0 - cr - bo) (t0 : 0 ≤ t) (t1 : t < 4294967296) (q0 : 0 ≤ q) (q1 : q < 4294967296) (hF : Nt.DivFacts j n L v top u2 v1 v2) (hT : T = Nt.valTo (L.drop j) (n + 3) / Nt.val v) (hG : Nt.Good T top v1 v2 u2 q) (h1 : 1 ≤ v1) (h2 : 0 ≤ v2) :
    DigitF w (wr.setCell ⟨g, j + (n + 2), none⟩ (.int .u32 t)) g j (n + 2) L v q := by
  have hs := h.sum
  rw [Nt.valTo_all v (by omega)] at hs
  have e : Nt.valTo ((S.set (j + (n + 2)) t).drop j) (n + 2 + 1) = Nt.valTo (L.drop j) (n + 2 + 1) - q * Nt.val v := by
    rw [Nt.drop_set, Nt.valTo_set _ _ (by have := h.len; simp; omega)]
    refine Nt.ms_end0 (Ul := Nt.valTo (L.drop j) (n + 2)) (uN := u0) hs ?_ ht
    rw [Nt.valTo_succ, Nt.drop_getD, ← hu]
  have hend := hG.end (Nt.pw_pos n) hF.eV (Nt.valTo_nonneg dv n) (Nt.valTo_lt dv n) hF.eU (Nt.valTo_nonneg (dL.drop j) n) h1 h2 (by rw [hT]; exact hF.tU) hF.vp
  refine ⟨_, h.ku.set _ _, by rw [List.length_set]; exact h.len, h.dig.set _ ⟨t0, t1⟩, ?_, q0, q1, ?_, ?_, h.only.setCell _ _⟩
  · intro k hk
    rw [List.getElem?_set_ne (by omega)]
    exact h.same k (by omega)
  · rw [e]; omega
  · rw [e]; exact hend.2
/-- It did not: once added back, it does. -/
theorem DigA.done {wr w wr0 : World} {g gv j n : Nat} {L v S R : List Int} {q cr bo u0 t c T top v1 v2 u2 : Int} (h0 : DigS wr0 w g gv j n (n + 2) L v S q cr bo) (h : DigA wr w g gv j n (n + 2) (S.set (j + (n + 2)) (t % 4294967296)) v R c) (hj : j + (n + 2) + 1 ≤ L.length) (hv : v.length = n + 2) (dv : Nt.Dig v) (dL : Nt.Dig L) (hu : u0 = L[j + (n + 2)]?.getD 0) (ht : t = u0 - cr - bo) (t0 : t < 0) (t1 : -4294967296 ≤ t) (q0 : 0 ≤ q) (q1 : q < 4294967296) (hF : Nt.DivFacts j n L v top u2 v1 v2) (hT : T = Nt.valTo (L.drop j) (n + 3) / Nt.val v) (hG : Nt.Good T top v1 v2 u2 q) (h1 : 1 ≤ v1) (h2 : 0 ≤ v2) :
    R[j + (n + 2)]?.getD 0 = t % 4294967296 ∧ 1 ≤ q ∧ (t % 4294967296 + c) % 4294967296 = 0 ∧ DigitF w (wr.setCell ⟨g, j + (n + 2), none⟩ (.int .u32 0)) g j (n + 2) L v (q - 1) := by
  have hs := h0.sum
  have ha := h.sum
  rw [Nt.valTo_all v (by omega)] at hs ha
  have e : Nt.valTo (S.drop j) (n + 2) + Nt.pw (n + 2) * t = Nt.valTo (L.drop j) (n + 2 + 1) - q * Nt.val v := by
    refine Nt.ms_end0 (Ul := Nt.valTo (L.drop j) (n + 2)) (uN := u0) hs ?_ ht
    rw [Nt.valTo_succ, Nt.drop_getD, ← hu]
  have hend := hG.end (Nt.pw_pos n) hF.eV (Nt.valTo_nonneg dv n) (Nt.valTo_lt dv n) hF.eU (Nt.valTo_nonneg (dL.drop j) n) h1 h2 (by rw [hT]; exact hF.tU) hF.vp
  have hU0 := Nt.valTo_nonneg (dL.drop j) (n + 2 + 1)
  rw [show n + 3 = n + 2 + 1 by omega] at hend
  have hX := Nt.valTo_lt (h0.dig.drop j) (n + 2)
  have hP := Nt.pw_pos (n + 2)
  have hVP := Nt.val_lt dv
  rw [hv] at hVP
  have hneg : Nt.valTo (L.drop j) (n + 2 + 1) - q * Nt.val v < 0 := by
    have : Nt.pw (n + 2) * t ≤ Nt.pw (n + 2) * (-1) := Int.mul_le_mul_of_nonneg_left (by omega) (by omega)
    omega
  have hq1 : 1 ≤ q := by
    rcases (show q = 0 ∨ 1 ≤ q by omega) with hq | hq
    · rw [hq] at hneg; omega
    · exact hq
  have hsl : Nt.valTo ((S.set (j + (n + 2)) (t % 4294967296)).drop j) (n + 2) = Nt.valTo (S.drop j) (n + 2) := by rw [Nt.drop_set, Nt.valTo_set_lt _ _ (Nat.le_refl _)]
  rw [hsl] at ha
  have hlen : (S.set (j + (n + 2)) (t % 4294967296)).length = L.length := by rw [List.length_set]; exact h0.len
  obtain ⟨k1, k2⟩ := Nt.ab_end hP ha e.symm (Nt.valTo_nonneg (h.dig.drop j) (n + 2)) (Nt.valTo_lt (h.dig.drop j) (n + 2)) (by have := hend.1; omega) (by omega)
  refine ⟨?_, hq1, by omega, _, h.ku.set _ _, by rw [List.length_set, h.len, hlen], h.dig.set _ (by omega), ?_, by omega, by omega, ?_, ?_, h.only.setCell _ _⟩
  · rw [h.same _ (.inr (Nat.le_refl _))]
    simp [show j + (n + 2) < S.length by have := h0.len; omega]
  · intro k hk
    rw [List.getElem?_set_ne (by omega), h.same k (by omega), List.getElem?_set_ne (by omega)]
    exact h0.same k (by omega)
  · rw [Nt.drop_set, Nt.valTo_set _ _ (by rw [List.length_drop, h.len, hlen]; omega), k2, Int.sub_mul]; omega
  · rw [Nt.drop_set, Nt.valTo_set _ _ (by rw [List.length_drop, h.len, hlen]; omega), k2]; omega
theorem DigW.drewN {w' w : World} {g gv : Nat} {L v : List Int} (h : DigW w' w g gv L v) (k : Nat) : DigW (w'.drewN k) w g gv L v := ⟨h.1, h.2.1, h.2.2.trans (Only.drewN _ _ _)⟩
set_option maxHeartbeats 2000000 in
set_option maxRecDepth 100000 in
theorem digit_any (g gv j n cu cv : Nat) (L v : List Int) (w : World) (hk : KBlk .u32 w g 105 L) (hkv : KBlk .u32 w gv 105 v) (hne : gv ≠ g) (hj : j + (n + 2) + 1 ≤ L.length) (hvl : v.length = n + 2) (dL : Nt.Dig L) (dv : Nt.Dig v) (hn : n ≤ 1000000000) (hcu : n + 3 ≤ cu) (hcu' : cu ≤ maxLen) (hcv : n + 2 ≤ cv) (hcv' : cv ≤ maxLen) (htop : 2147483648 ≤ v[n + 1]?.getD 0) (hU : Nt.valTo (L.drop j) (n + 3) < 4294967296 * Nt.val v) :
    Calls Tryz.prog 209 #[.slice (some ⟨g, j, none⟩) (n + 3) cu, .slice (some ⟨gv, 0, none⟩) (n + 2) cv] w fun e w' => ∃ q, e = .returned (.int .u32 q) ∧ DigitF w w' g j (n + 2) L v q := by
  have c1 := hk.cell (i := j + (n + 2)) (by omega)
  have c2 := hk.cell (i := j + (n + 1)) (by omega)
  have c3 := hk.cell (i := j + n) (by omega)
  have d1 := hkv.cell (i := n + 1) (by omega)
  have d2 := hkv.cell (i := n) (by omega)
  have hv1 := dv.at (n + 1)
  have hv2 := dv.at n
  have hu0 := dL.at (j + (n + 2))
  have hu1 := dL.at (j + (n + 1))
  have hu2 := dL.at (j + n)
  obtain ⟨v1, ev1⟩ : ∃ x, x = v[n + 1]?.getD 0 := ⟨_, rfl⟩
  obtain ⟨v2, ev2⟩ : ∃ x, x = v[n]?.getD 0 := ⟨_, rfl⟩
  obtain ⟨u0, eu0⟩ : ∃ x, x = L[j + (n + 2)]?.getD 0 := ⟨_, rfl⟩
  obtain ⟨u1, eu1⟩ : ∃ x, x = L[j + (n + 1)]?.getD 0 := ⟨_, rfl⟩
  obtain ⟨u2, eu2⟩ : ∃ x, x = L[j + n]?.getD 0 := ⟨_, rfl⟩
  rw [← ev1] at d1 hv1 htop
  rw [← ev2] at d2 hv2
  rw [← eu0] at c1 hu0
  rw [← eu1] at c2 hu1
  rw [← eu2] at c3 hu2
  have Ev1 := Lib.hid ev1
  have Ev2 := Lib.hid ev2
  have Eu0 := Lib.hid eu0
  have Eu1 := Lib.hid eu1
  have Eu2 := Lib.hid eu2
  have HU := Lib.hid hU
  have DL := Lib.hid dL
  have Dv := Lib.hid dv
  have Hk := Lib.hid hk
  have Hkv := Lib.hid hkv
  have Hvl := Lib.hid hvl
  have Hj := Lib.hid hj
  clear ev1 ev2 eu0 eu1 eu2 hU dL dv hk hkv hvl hj
  go_enter Tryz.func209, Tryz.ntmps209
  go_wp2
  go_quiet (fail)
  rw [Nt.or_top hu0.1 hu0.2 hu1.1 hu1.2]
  obtain ⟨top, htop1⟩ : ∃ top, top = u0 * 4294967296 + u1 := ⟨_, rfl⟩
  have Htop := Lib.hid htop1
  have t0 : 0 ≤ top := by omega
  have t1 : top < 18446744073709551616 := by omega
  rw [← htop1]
  clear htop1
  have Hnq : Hid (KBlk .u32 (w.drewN nq) g 105 L ∧ KBlk .u32 (w.drewN nq) gv 105 v ∧ Only g w (w.drewN nq)) := ⟨Hk.out, Hkv.out, Only.drewN _ _ _⟩
  have e1 : (w.drewN nq).cell? ⟨gv, n + 1, none⟩ = some (.int .u32 v1) := d1
  have e2 : (w.drewN nq).cell? ⟨gv, n, none⟩ = some (.int .u32 v2) := d2
  have f2 : (w.drewN nq).cell? ⟨g, j + n, none⟩ = some (.int .u32 u2) := c3
  generalize w.drewN nq = wa at *
  clear d1 d2 c1 c2 c3 Hk Hkv
  have hv1b : (v1 == 0) = false := by rw [beq_eq_false_iff_ne]; omega
  go_wp2
  go_quiet (fail)
  have hT : Hid (Nt.DivFacts j n L v top u2 v1 v2) := Nt.div_facts Dv.out DL.out Hvl.out Hj.out Ev1.out Ev2.out Eu0.out Eu1.out Eu2.out Htop.out htop HU.out
  obtain ⟨T, hTd⟩ : ∃ T, T = Nt.valTo (L.drop j) (n + 3) / Nt.val v := ⟨_, rfl⟩
  have HTd := Lib.hid hTd
  clear hTd
  have Hst : Hid (Nt.Guess T top v1 v2 u2 (top / v1) (top % v1)) := by
    have h := hT.out
    exact Nt.Guess.start t0 (by omega) (by rw [HTd.out]; exact h.t0) (by rw [HTd.out]; exact h.ta) (by omega) (by omega)
  have b0 : 0 ≤ top / v1 := Int.ediv_nonneg t0 (by omega)
  have b1 : top / v1 ≤ 8589934592 := Int.ediv_le_of_le_mul (by omega) (by omega)
  have b2 : 0 ≤ top % v1 := Int.emod_nonneg _ (by omega)
  have b3 : top % v1 < 4294967296 := by have := Int.emod_lt_of_pos top (b := v1) (by omega); omega
  have Hnq1 : DigW wa w g gv L v := Hnq.out
  have Hnq2 : Hid (DigW (wa.drewN nq) w g gv L v) := Hnq1.drewN nq
  clear e1 e2 f2 Hnq Hnq1
  go_upto_block 0 with (fail)
  go_cut [7] (fun s7 wx => ∃ q : Int, s7 = .int .u64 q ∧ 0 ≤ q ∧ q < 4294967296 ∧ Hid (Nt.Good T top v1 v2 u2 q) ∧ Hid (DigW wx w g gv L v))
  case first =>
    generalize wa.drewN nq = wb at *
    go_wp2
    go_loopw [7, 8] (fun s7 s8 wr => ∃ q r : Int, s7 = .int .u64 q ∧ s8 = .int .u64 r ∧ 0 ≤ q ∧ q ≤ 8589934592 ∧ 0 ≤ r ∧ r < 4294967296 ∧ Hid (Nt.Guess T top v1 v2 u2 q r) ∧ Hid (DigW wr w g gv L v)) (fun s7 _ _ => (intOf s7).toNat)
    case atStart => exact ⟨_, _, rfl, rfl, b0, b1, b2, b3, Hst, Hnq2⟩
    case round =>
      obtain ⟨q, r, rfl, rfl, q0, q1, r0, r1, hg, hw⟩ := hrel
      clear b0 b1 b2 b3 Hst Hnq2
      have e1 : wr.cell? ⟨gv, n + 1, none⟩ = some (.int .u32 v1) := by rw [Ev1.out]; exact hw.out.2.1.cell (by have := Hvl.out; omega)
      have e2 : wr.cell? ⟨gv, n, none⟩ = some (.int .u32 v2) := by rw [Ev2.out]; exact hw.out.2.1.cell (by have := Hvl.out; omega)
      have f2 : wr.cell? ⟨g, j + n, none⟩ = some (.int .u32 u2) := by rw [Eu2.out]; exact hw.out.1.cell (by have := Hj.out; omega)
      by_cases hq : 4294967296 ≤ q
      · have hn' : Hid (Nt.Guess T top v1 v2 u2 (q - 1) (r + v1)) := hg.out.next (by rw [HTd.out]; exact hT.out.t0) (by rw [HTd.out]; exact hT.out.t1) (by rw [HTd.out]; exact hT.out.ta) (by omega) (by omega) (.inl hq)
        have hw2 : Hid (∀ k, DigW (wr.drewN k) w g gv L v) := fun k => hw.out.drewN k
        have ee1 : Hid (∀ k, (wr.drewN k).cell? ⟨gv, n + 1, none⟩ = some (.int .u32 v1)) := fun _ => e1
        clear hg hw
        go_wp2
        go_quiet (fail)
        have hw3 := Lib.hid (hw2.out nq)
        have e3 := ee1.out nq
        generalize wr.drewN nq = wq at *
        clear hw2 ee1 e1 e2 f2
        by_cases hr : 4294967296 ≤ r + v1
        · have hG : Hid (Nt.Good T top v1 v2 u2 (q - 1)) := hn'.out.broke (by have := Htop.out; have := hT.out; exact hT.out.tb) hr (by omega) (by omega) (by omega) (by omega)
          go_wp2
          go_meet
          exact ⟨q - 1, rfl, by omega, hG.out.q1, hG, hw3⟩
        · go_wp2
          go_roundw
          case rel => exact ⟨q - 1, r + v1, rfl, rfl, hn'.out.q0, by omega, by omega, by omega, hn', hw3⟩
          case measure => simp [intOf]; omega
      · by_cases ht : r * 4294967296 + u2 < q * v2
        · have hn' : Hid (Nt.Guess T top v1 v2 u2 (q - 1) (r + v1)) := hg.out.next (by rw [HTd.out]; exact hT.out.t0) (by rw [HTd.out]; exact hT.out.t1) (by rw [HTd.out]; exact hT.out.ta) (by omega) (by omega) (.inr ht)
          have qp : 1 ≤ q := by have := hn'.out.q0; omega
          have qp2 : q < 4294967296 := by omega
          have or1 := Nt.or_top r0 r1 hu2.1 hu2.2
          have hq1 : decide (4294967296 ≤ q) = false := by simpa using hq
          have mb := Nt.mul_bd32 (x := q) (y := v2) ⟨q0, by omega⟩ hv2
          have htd : decide (bits BinOp.or IntKind.u64 (r * 4294967296) u2 < q * v2) = true := by rw [or1]; simpa using ht
          have hw2 : Hid (∀ k, DigW (wr.drewN k) w g gv L v) := fun k => hw.out.drewN k
          have ee1 : Hid (∀ k, (wr.drewN k).cell? ⟨gv, n + 1, none⟩ = some (.int .u32 v1)) := fun _ => e1
          clear hg hw or1
          go_wp2
          go_quiet (fail)
          have hw3 := Lib.hid (hw2.out nq)
          have e3 := ee1.out nq
          generalize wr.drewN nq = wq at *
          clear hw2 ee1 e1 e2 f2
          by_cases hr : 4294967296 ≤ r + v1
          · have hG : Hid (Nt.Good T top v1 v2 u2 (q - 1)) := hn'.out.broke (by have := Htop.out; have := hT.out; exact hT.out.tb) hr (by omega) (by omega) (by omega) (by omega)
            go_wp2
            go_meet
            exact ⟨q - 1, rfl, by omega, hG.out.q1, hG, hw3⟩
          · go_wp2
            go_roundw
            case rel => exact ⟨by omega, by omega⟩
            case measure => simp [intOf]; omega
        · have hG : Hid (Nt.Good T top v1 v2 u2 q) := hg.out.good (by omega) (by omega)
          have or1 := Nt.or_top r0 r1 hu2.1 hu2.2
          have qp2 : q < 4294967296 := by omega
          have hq1 : decide (4294967296 ≤ q) = false := by simpa using hq
          have mb := Nt.mul_bd32 (x := q) (y := v2) ⟨q0, by omega⟩ hv2
          have htd : decide (bits BinOp.or IntKind.u64 (r * 4294967296) u2 < q * v2) = false := by rw [or1]; simpa using ht
          have hw2 : Hid (∀ k, DigW (wr.drewN k) w g gv L v) := fun k => hw.out.drewN k
          clear hg hw or1
          go_wp2
          go_quiet (fail)
          have hw3 := Lib.hid (hw2.out nq)
          clear hw2
          go_wp2
          go_meet
          exact ⟨q, rfl, q0, qp2, hG, hw3⟩
  case rest =>
    obtain ⟨q, rfl, q0, q1, hG, hw⟩ := hcut
    clear b0 b1 b2 b3 Hst Hnq2
    go_wp2
    go_loopw [9, 10, 86] (fun cv bv iv wr => ∃ (i : Nat) (cr bo : Int) (S : List Int), i ≤ n + 2 ∧ 0 ≤ cr ∧ cr ≤ 4294967295 ∧ 0 ≤ bo ∧ bo ≤ 1 ∧ cv = .int .u64 cr ∧ bv = .int .u64 bo ∧ iv = .int .i64 i ∧ DigS wr w g gv j n i L v S q cr bo) (fun _ _ iv _ => n + 2 - (intOf iv).toNat)
    case atStart => exact ⟨0, 0, 0, L, by omega, by omega, by omega, by omega, by omega, rfl, rfl, rfl, hw.out.1, hw.out.2.1, hw.out.2.2, rfl, DL.out, by simp [Nt.valTo_zero], fun _ _ => rfl⟩
    case round =>
      obtain ⟨i, cr, bo, S, hi, c0, c1, o0, o1, rfl, rfl, rfl, hs⟩ := hrel
      clear hw
      by_cases hin : i < n + 2
      · have hv := hs.kv.cell (i := i) (by have := Hvl.out; omega)
        have hu := hs.ku.cell (i := j + i) (by have := Hj.out; have := hs.len; omega)
        have hf := hs.ku.frozen (j + i)
        have hd := Dv.out.at i
        have hx := hs.dig.at (j + i)
        have mb := Nt.mul_bd32 (x := q) (y := v[i]?.getD 0) ⟨q0, q1⟩ hd
        obtain ⟨d, hdd⟩ : ∃ d, d = v[i]?.getD 0 := ⟨_, rfl⟩
        obtain ⟨x, hxx⟩ : ∃ x, x = S[j + i]?.getD 0 := ⟨_, rfl⟩
        have Hs := Lib.hid hs
        have Hdd := Lib.hid hdd
        have Hxx := Lib.hid hxx
        rw [← hdd] at hv hd mb
        rw [← hxx] at hu hx
        have mb0 := mb.1
        have mb1 := mb.2
        have hne' : g ≠ gv := fun h => hne h.symm
        have q00 := Hs.out.next (p := q * d + cr) (t := x - (q * d + cr) % 4294967296 - bo) hne Hj.out hin Hdd.out Hxx.out rfl rfl (by omega) (by omega)
        have Hn := Lib.hid q00
        have hlo := Nt.sub_low2 (x := x) (r := (q * d + cr) % 4294967296) (bo := bo) hx.1 hx.2 (by omega) (by omega) o0 o1
        have Hlo := Lib.hid hlo
        clear hs hdd hxx mb q00 hlo
        go_wp2
        go_roundw
        case rel =>
          rw [Hlo.out.1, Hlo.out.2]
          exact ⟨i + 1, _, _, _, by omega, by omega, by omega, by split <;> omega, by split <;> omega, rfl, rfl, by go_num, Hn.out⟩
        case measure => simp [intOf]; omega
      · obtain rfl : i = n + 2 := by omega
        have hu := hs.ku.cell (i := j + (n + 2)) (by have := Hj.out; have := hs.len; omega)
        have hf := hs.ku.frozen (j + (n + 2))
        rw [hs.same _ (.inr (Nat.le_refl _)), ← Eu0.out] at hu
        have hlo := Nt.sub_low2 (x := u0) (r := cr) (bo := bo) hu0.1 hu0.2 c0 (by omega) o0 o1
        have Hs := Lib.hid hs
        by_cases ht : u0 - cr - bo < 0
        · rw [if_pos ht] at hlo
          obtain ⟨lo1, lo2⟩ := hlo
          have Hlo := Lib.hid lo1
          clear hs lo1
          go_wp2
          obtain ⟨tt, htt⟩ : ∃ tt, tt = u0 - cr - bo := ⟨_, rfl⟩
          have Htt := Lib.hid htt
          rw [← htt] at ht
          have tt0 : -4294967296 ≤ tt := by omega
          have Hk0 : Hid (DigA (wr.setCell ⟨g, j + (n + 2), none⟩ (.int .u32 (IntKind.u64.wrap (IntKind.u64.wrap (u0 - cr) - bo) % 4294967296))) w g gv j n 0 (S.set (j + (n + 2)) (tt % 4294967296)) v (S.set (j + (n + 2)) (tt % 4294967296)) 0) := by
            rw [Hlo.out, ← Htt.out]
            exact ⟨Hs.out.ku.set _ _, Hs.out.kv.far (p := ⟨g, j + (n + 2), none⟩) hne _, Hs.out.only.setCell _ _, rfl, Hs.out.dig.set _ (by omega), by simp [Nt.valTo_zero], fun _ _ => rfl⟩
          generalize wr.setCell ⟨g, j + (n + 2), none⟩ (.int .u32 (IntKind.u64.wrap (IntKind.u64.wrap (u0 - cr) - bo) % 4294967296)) = ws at *
          clear htt lo2 hu hf Hlo
          obtain ⟨wo, rfl⟩ : ∃ wo : World, wo = wr := ⟨_, rfl⟩
          go_loopw [9, 139] (fun cv iv wr => ∃ (i : Nat) (c : Int) (R : List Int), i ≤ n + 2 ∧ 0 ≤ c ∧ c ≤ 1 ∧ cv = .int .u64 c ∧ iv = .int .i64 i ∧ DigA wr w g gv j n i (S.set (j + (n + 2)) (tt % 4294967296)) v R c) (fun _ iv _ => n + 2 - (intOf iv).toNat)
          case atStart => exact ⟨0, 0, _, by omega, by omega, by omega, rfl, rfl, Hk0.out⟩
          case round =>
            obtain ⟨i, c, R, hi, c0, c1, rfl, rfl, hr⟩ := hrel
            clear Hk0
            have hM : (S.set (j + (n + 2)) (tt % 4294967296)).length = L.length := by rw [List.length_set]; exact Hs.out.len
            by_cases hin : i < n + 2
            · have hv := hr.kv.cell (i := i) (by have := Hvl.out; omega)
              have hu := hr.ku.cell (i := j + i) (by have := Hj.out; have := hr.len; omega)
              have hf := hr.ku.frozen (j + i)
              have hd := Dv.out.at i
              have hx := hr.dig.at (j + i)
              obtain ⟨d, hdd⟩ : ∃ d, d = v[i]?.getD 0 := ⟨_, rfl⟩
              obtain ⟨x, hxx⟩ : ∃ x, x = R[j + i]?.getD 0 := ⟨_, rfl⟩
              have Hn := Lib.hid (hr.next (t := x + d + c) hne (by have := Hj.out; omega) hin hdd hxx rfl)
              rw [← hdd] at hv hd
              rw [← hxx] at hu hx
              clear hr hdd hxx hM
              go_wp2
              go_roundw
              case rel => exact ⟨i + 1, _, _, by omega, by omega, by omega, rfl, by go_num, Hn.out⟩
              case measure => simp [intOf]; omega
            · obtain rfl : i = n + 2 := by omega
              obtain ⟨z1, z2, z3, z4⟩ := DigA.done Hs.out hr Hj.out Hvl.out Dv.out DL.out Eu0.out Htt.out (by omega) tt0 q0 q1 hT.out HTd.out hG.out (by omega) hv2.1
              have hu := hr.ku.cell (i := j + (n + 2)) (by have := Hj.out; have := hr.len; omega)
              have hf := hr.ku.frozen (j + (n + 2))
              rw [z1] at hu
              have HF := Lib.hid z4
              have Hz := Lib.hid z3
              obtain ⟨y, hy⟩ : ∃ y, y = tt % 4294967296 := ⟨_, rfl⟩
              rw [← hy] at hu
              have Hy := Lib.hid hy
              have y0 : 0 ≤ y := by omega
              have y1 : y < 4294967296 := by omega
              clear z1 z3 z4 hr hM hy
              go_wp2
              go_ret
              rw [Hy.out, Hz.out]
              exact ⟨q - 1, rfl, HF.out⟩
        · rw [if_neg ht] at hlo
          obtain ⟨lo1, lo2⟩ := hlo
          have Hlo := Lib.hid lo1
          have HF := Lib.hid (hs.done Hj.out Hvl.out Dv.out DL.out Eu0.out rfl (by omega) (by omega) q0 q1 hT.out HTd.out hG.out (by omega) hv2.1)
          have e : (u0 - cr - bo) % 4294967296 = u0 - cr - bo := by omega
          have He := Lib.hid e
          have e2 : ((u0 - cr - bo) / 9223372036854775808 == 0) = true := by rw [beq_iff_eq]; omega
          clear hs lo1 lo2 e
          go_wp2
          go_ret
          exact ⟨q, rfl, HF.out⟩
end Go.Proofs.YtnedhbidmfoegaaGreat

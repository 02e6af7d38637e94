/- Contracts of nat: digit (one digit of a long division, in place). Contracts of nat: divide where the dividend is less, and by one digit. Contracts of nat: divide by two digits or more (Knuth D), and any divide. Contracts of nat: divide by two digits or more (Knuth D), and any divide. Contracts of nat: DivMod, small. Lehmer's steps of Euclid's algorithm. No program in sight. Contracts of nat: combine. Contracts of nat: cofactors (Lehmer). Contracts of nat: leading. Contracts of nat: shorten. Contracts of nat: Gcd. Contracts of the reference of nat: Trim, Same, Compare. Contracts of the reference of nat: Add, Sub. Contracts of the reference of nat: Mul, small. Contracts of the reference of nat: BitLen, Shift. Contracts of the reference of nat: Shift to the right. The reference's long division: what it needs, without the walk. The reference's DivMod: the short ways. -/
import Derived.Test.YtnedhbidmfoegaaGreatGcA
import Derived.Deep.DeepCutAuto
import Derived.Deep.CutBlock
import Derived.BigRegion
import Derived.Deep.RegionWith
import Derived.WalkLawsBesides
namespace Go.Proofs.YtnedhbidmfoegaaGreat
open Go.RowKit
set_option linter.unusedVariables false

/-- From w to w' only block g has changed. -/
structure Only (g : Nat) (w w' : World) : Prop where
  below : Below g w w'
  size : w'.heap.size = w.heap.size
  block : ∀ b, b ≠ g → w'.heap[b]? = w.heap[b]?
theorem Only.refl (g : Nat) (w : World) : Only g w w := ⟨Below.refl _ _, rfl, fun _ _ => rfl⟩
theorem Only.drewN (g : Nat) (w : World) (q : Nat) : Only g w (w.drewN q) := ⟨⟨rfl, rfl, rfl, Nat.le_refl _, fun _ _ => rfl⟩, rfl, fun _ _ => rfl⟩
theorem Only.trans {g : Nat} {w w1 w2 : World} (h : Only g w w1) (k : Only g w1 w2) : Only g w w2 := ⟨h.below.trans k.below, k.size.trans h.size, fun b hb => (k.block b hb).trans (h.block b hb)⟩
theorem Only.setCell {g : Nat} {w w1 : World} (h : Only g w w1) (i : Nat) (u : Value) : Only g w (w1.setCell ⟨g, i, none⟩ u) :=
  ⟨h.below.setCell (p := ⟨g, i, none⟩) (Nat.le_refl _) u, by have := h.size; simpa [World.setCell] using this, fun b hb => (Below.heap_setCell w1 ⟨g, i, none⟩ u b hb).trans (h.block b hb)⟩
theorem KBlk.only {k : IntKind} {w w' : World} {g b : Nat} {t : TypeId} {l : List Int} (h : KBlk k w b t l) (ho : Only g w w') (hb : b ≠ g) : KBlk k w' b t l := (ho.block b hb).trans h
theorem Below.only {B g : Nat} {w w1 w2 : World} (h : Below B w w1) (k : Only g w1 w2) (hg : B ≤ g) : Below B w w2 :=
  ⟨k.below.os.trans h.os, k.below.tape.trans h.tape, k.below.output.trans h.output, by have := h.size; have := k.size; omega, fun b hb => (k.block b (by omega)).trans (h.block b hb)⟩

namespace Nt
theorem or_top {x y : Int} (h0 : 0 ≤ x) (h1 : x < 4294967296) (k0 : 0 ≤ y) (k1 : y < 4294967296) : bits .or .u64 (x * 4294967296) y = x * 4294967296 + y :=
  bits_join .u64 64 (by decide) (fun n h0 h1 => by rw [IntKind.wrap_u64]; omega) 32 _ _ (by omega) (by omega) (by omega) k0 (by omega) (by omega)
end Nt
namespace Nt
/-- What is known of the true digit. -/
structure DivFacts (j n : Nat) (L v : List Int) (top u2 v1 v2 : Int) : Prop where
  vp : 0 < val v
  eU : valTo (L.drop j) (n + 3) = (top * 4294967296 + u2) * pw n + valTo (L.drop j) n
  eV : val v = (v1 * 4294967296 + v2) * pw n + valTo v n
  t0 : 0 ≤ valTo (L.drop j) (n + 3) / val v
  t1 : valTo (L.drop j) (n + 3) / val v < 4294967296
  tU : valTo (L.drop j) (n + 3) < (valTo (L.drop j) (n + 3) / val v + 1) * val v
  tb : top < v1 * 4294967296 + 4294967296
  ta : (valTo (L.drop j) (n + 3) / val v) * (v1 * 4294967296 + v2) ≤ top * 4294967296 + u2
theorem div_facts {j n : Nat} {L v : List Int} {top u0 u1 u2 v1 v2 : Int} (dv : Dig v) (dL : Dig L) (hv : v.length = n + 2) (hj : j + (n + 2) + 1 ≤ L.length) (e1 : v1 = v[n + 1]?.getD 0) (e2 : v2 = v[n]?.getD 0) (f0 : u0 = L[j + (n + 2)]?.getD 0) (f1 : u1 = L[j + (n + 1)]?.getD 0) (f2 : u2 = L[j + n]?.getD 0) (ht : top = u0 * 4294967296 + u1) (h1 : 2147483648 ≤ v1) (hU : valTo (L.drop j) (n + 3) < 4294967296 * val v) : DivFacts j n L v top u2 v1 v2 := by
  have hp := pw_pos n
  have eV : val v = (v1 * 4294967296 + v2) * pw n + valTo v n := by
    rw [← valTo_all v (n := n + 2) (by omega), valTo_succ, valTo_succ, ← e1, ← e2, pw]; grind
  have eU : valTo (L.drop j) (n + 3) = (top * 4294967296 + u2) * pw n + valTo (L.drop j) n := by
    rw [valTo_succ, valTo_succ, valTo_succ, drop_getD, drop_getD, drop_getD, ← f0, ← f1, ← f2, ht]; simp only [pw]; grind
  have q2 := dv.at n
  have p0 := dL.at (j + (n + 2))
  have p1 := dL.at (j + (n + 1))
  have p2 := dL.at (j + n)
  rw [← e2] at q2
  rw [← f0] at p0
  rw [← f1] at p1
  rw [← f2] at p2
  have hv0 := valTo_nonneg dv n
  obtain ⟨t0, t1, _, t3, t4⟩ := true_digit hp eV hv0 eU (valTo_nonneg (dL.drop j) n) (valTo_lt (dL.drop j) n) (by omega) (by omega) hU
  refine ⟨?_, eU, eV, t0, t1, t3, ?_, t4⟩
  · have : 0 < (v1 * 4294967296 + v2) * pw n := Int.mul_pos (by omega) hp
    omega
  · have h2 : valTo v n < pw n := valTo_lt dv n
    have h3 := valTo_nonneg (dL.drop j) n
    have h4 : 4294967296 * val v < 4294967296 * ((v1 * 4294967296 + v2 + 1) * pw n) := by
      rw [eV, Int.add_mul _ 1]; omega
    have h5 : (top * 4294967296 + u2) * pw n < (4294967296 * (v1 * 4294967296 + v2 + 1)) * pw n := by
      rw [Int.mul_assoc 4294967296]; omega
    have h6 := Int.lt_of_mul_lt_mul_right h5 (by omega)
    omega
end Nt
/-- What digit answers: the quotient's digit; u became the remainder. -/
def DigitF (w0 w : World) (g j N : Nat) (L v : List Int) (q : Int) : Prop := ∃ L', KBlk .u32 w g 105 L' ∧ L'.length = L.length ∧ Nt.Dig L' ∧ (∀ k, k < j ∨ j + N + 1 ≤ k → L'[k]? = L[k]?) ∧ 0 ≤ q ∧ q < 4294967296 ∧ Nt.valTo (L.drop j) (N + 1) = q * Nt.val v + Nt.valTo (L'.drop j) (N + 1) ∧ Nt.valTo (L'.drop j) (N + 1) < Nt.val v ∧ Only g w0 w

/-- The world of digit: u is still L, v is v. -/
def DigW (w' w : World) (g gv : Nat) (L v : List Int) : Prop := KBlk .u32 w' g 105 L ∧ KBlk .u32 w' gv 105 v ∧ Only g w w'
structure DigS (wr w : World) (g gv j n i : Nat) (L v S : List Int) (q cr bo : Int) : Prop where
  ku : KBlk .u32 wr g 105 S
  kv : KBlk .u32 wr gv 105 v
  only : Only g w wr
  len : S.length = L.length
  dig : Nt.Dig S
  sum : Nt.valTo (S.drop j) i + q * Nt.valTo v i = Nt.valTo (L.drop j) i + (cr + bo) * Nt.pw i
  same : ∀ k, k < j ∨ j + i ≤ k → S[k]? = L[k]?
theorem Nt.sub_low2 {x r bo : Int} (hx : 0 ≤ x) (hx' : x < 4294967296) (hr : 0 ≤ r) (hr' : r < 4294967296) (hb : 0 ≤ bo) (hb' : bo ≤ 1) :
    IntKind.u64.wrap (IntKind.u64.wrap (x - r) - bo) % 4294967296 = (x - r - bo) % 4294967296 ∧ IntKind.u64.wrap (IntKind.u64.wrap (x - r) - bo) / 9223372036854775808 = (if x - r - bo < 0 then 1 else 0) := by
  rw [IntKind.wrap_u64, IntKind.wrap_u64]
  split <;> omega
theorem DigS.next {wr w : World} {g gv j n i : Nat} {L v S : List Int} {q cr bo d x p t : Int} (h : DigS wr w g gv j n i L v S q cr bo) (hne : gv ≠ g) (hj : j + (n + 2) + 1 ≤ L.length) (hi : i < n + 2) (hd : d = v[i]?.getD 0) (hx : x = S[j + i]?.getD 0) (hp : p = q * d + cr) (ht : t = x - p % 4294967296 - bo) (t0 : -4294967296 ≤ t) (t1 : t < 4294967296) :
    DigS (wr.setCell ⟨g, j + i, none⟩ (.int .u32 (t % 4294967296))) w g gv j n (i + 1) L v (S.set (j + i) (t % 4294967296)) q (p / 4294967296) (if t < 0 then 1 else 0) := by
  refine ⟨h.ku.set _ _, h.kv.far (p := ⟨g, j + i, none⟩) hne _, h.only.setCell _ _, by rw [List.length_set]; exact h.len, h.dig.set _ (by omega), ?_, ?_⟩
  · rw [Nt.drop_set]
    refine Nt.ms_step (M := S.drop j) (u := L.drop j) (v := v) (p := p) (t := t) (by have := h.len; simp; omega) h.sum ?_ (by rw [← hd]; exact hp) (by rw [Nt.drop_getD, ← hx]; exact ht) t0 t1
    rw [Nt.drop_getD, Nt.drop_getD, h.same (j + i) (.inr (Nat.le_refl _))]
  · intro k hk
    rw [List.getElem?_set_ne (by omega)]
    exact h.same k (by omega)
structure DigA (wr w : World) (g gv j n i : Nat) (M v R : List Int) (c : Int) : Prop where
  ku : KBlk .u32 wr g 105 R
  kv : KBlk .u32 wr gv 105 v
  only : Only g w wr
  len : R.length = M.length
  dig : Nt.Dig R
  sum : Nt.valTo (R.drop j) i + c * Nt.pw i = Nt.valTo (M.drop j) i + Nt.valTo v i
  same : ∀ k, k < j ∨ j + i ≤ k → R[k]? = M[k]?
theorem DigA.next {wr w : World} {g gv j n i : Nat} {M v R : List Int} {c d x t : Int} (h : DigA wr w g gv j n i M v R c) (hne : gv ≠ g) (hj : j + (n + 2) + 1 ≤ M.length) (hi : i < n + 2) (hd : d = v[i]?.getD 0) (hx : x = R[j + i]?.getD 0) (ht : t = x + d + c) :
    DigA (wr.setCell ⟨g, j + i, none⟩ (.int .u32 (t % 4294967296))) w g gv j n (i + 1) M v (R.set (j + i) (t % 4294967296)) (t / 4294967296) := by
  refine ⟨h.ku.set _ _, h.kv.far (p := ⟨g, j + i, none⟩) hne _, h.only.setCell _ _, by rw [List.length_set]; exact h.len, h.dig.set _ (by omega), ?_, ?_⟩
  · rw [Nt.drop_set]
    refine Nt.ab_step (M := M.drop j) (R := R.drop j) (v := v) (t := t) (by have := h.len; simp; omega) h.sum ?_ (by rw [Nt.drop_getD, ← hx, ← hd]; exact ht)
    rw [Nt.drop_getD, Nt.drop_getD, h.same (j + i) (.inr (Nat.le_refl _))]
  · intro k hk
    rw [List.getElem?_set_ne (by omega)]
    exact h.same k (by omega)
/-- The subtraction came out: no borrow. -/
theorem DigS.done {wr w : World} {g gv j n : Nat} {L v S : List Int} {q cr bo u0 t T top v1 v2 u2 : Int} (h : DigS wr w g gv j n (n + 2) L v S q cr bo) (hj : j + (n + 2) + 1 ≤ L.length) (hv : v.length = n + 2) (dv : Nt.Dig v) (dL : Nt.Dig L) (hu : u0 = L[j + (n + 2)]?.getD 0) (ht : t = u0 - cr - bo) (t0 : 0 ≤ t) (t1 : t < 4294967296) (q0 : 0 ≤ q) (q1 : q < 4294967296) (hF : Nt.DivFacts j n L v top u2 v1 v2) (hT : T = Nt.valTo (L.drop j) (n + 3) / Nt.val v) (hG : Nt.Good T top v1 v2 u2 q) (h1 : 1 ≤ v1) (h2 : 0 ≤ v2) :
    DigitF w (wr.setCell ⟨g, j + (n + 2), none⟩ (.int .u32 t)) g j (n + 2) L v q := by
  have hs := h.sum
  rw [Nt.valTo_all v (by omega)] at hs
  have e : Nt.valTo ((S.set (j + (n + 2)) t).drop j) (n + 2 + 1) = Nt.valTo (L.drop j) (n + 2 + 1) - q * Nt.val v := by
    rw [Nt.drop_set, Nt.valTo_set _ _ (by have := h.len; simp; omega)]
    refine Nt.ms_end0 (Ul := Nt.valTo (L.drop j) (n + 2)) (uN := u0) hs ?_ ht
    rw [Nt.valTo_succ, Nt.drop_getD, ← hu]
  have hend := hG.end (Nt.pw_pos n) hF.eV (Nt.valTo_nonneg dv n) (Nt.valTo_lt dv n) hF.eU (Nt.valTo_nonneg (dL.drop j) n) h1 h2 (by rw [hT]; exact hF.tU) hF.vp
  refine ⟨_, h.ku.set _ _, by rw [List.length_set]; exact h.len, h.dig.set _ ⟨t0, t1⟩, ?_, q0, q1, ?_, ?_, h.only.setCell _ _⟩
  · intro k hk
    rw [List.getElem?_set_ne (by omega)]
    exact h.same k (by omega)
  · rw [e]; omega
  · rw [e]; exact hend.2
/-- It did not: once added back, it does. -/
theorem DigA.done {wr w wr0 : World} {g gv j n : Nat} {L v S R : List Int} {q cr bo u0 t c T top v1 v2 u2 : Int} (h0 : DigS wr0 w g gv j n (n + 2) L v S q cr bo) (h : DigA wr w g gv j n (n + 2) (S.set (j + (n + 2)) (t % 4294967296)) v R c) (hj : j + (n + 2) + 1 ≤ L.length) (hv : v.length = n + 2) (dv : Nt.Dig v) (dL : Nt.Dig L) (hu : u0 = L[j + (n + 2)]?.getD 0) (ht : t = u0 - cr - bo) (t0 : t < 0) (t1 : -4294967296 ≤ t) (q0 : 0 ≤ q) (q1 : q < 4294967296) (hF : Nt.DivFacts j n L v top u2 v1 v2) (hT : T = Nt.valTo (L.drop j) (n + 3) / Nt.val v) (hG : Nt.Good T top v1 v2 u2 q) (h1 : 1 ≤ v1) (h2 : 0 ≤ v2) :
    R[j + (n + 2)]?.getD 0 = t % 4294967296 ∧ 1 ≤ q ∧ (t % 4294967296 + c) % 4294967296 = 0 ∧ DigitF w (wr.setCell ⟨g, j + (n + 2), none⟩ (.int .u32 0)) g j (n + 2) L v (q - 1) := by
  have hs := h0.sum
  have ha := h.sum
  rw [Nt.valTo_all v (by omega)] at hs ha
  have e : Nt.valTo (S.drop j) (n + 2) + Nt.pw (n + 2) * t = Nt.valTo (L.drop j) (n + 2 + 1) - q * Nt.val v := by
    refine Nt.ms_end0 (Ul := Nt.valTo (L.drop j) (n + 2)) (uN := u0) hs ?_ ht
    rw [Nt.valTo_succ, Nt.drop_getD, ← hu]
  have hend := hG.end (Nt.pw_pos n) hF.eV (Nt.valTo_nonneg dv n) (Nt.valTo_lt dv n) hF.eU (Nt.valTo_nonneg (dL.drop j) n) h1 h2 (by rw [hT]; exact hF.tU) hF.vp
  have hU0 := Nt.valTo_nonneg (dL.drop j) (n + 2 + 1)
  rw [show n + 3 = n + 2 + 1 by omega] at hend
  have hX := Nt.valTo_lt (h0.dig.drop j) (n + 2)
  have hP := Nt.pw_pos (n + 2)
  have hVP := Nt.val_lt dv
  rw [hv] at hVP
  have hneg : Nt.valTo (L.drop j) (n + 2 + 1) - q * Nt.val v < 0 := by
    have : Nt.pw (n + 2) * t ≤ Nt.pw (n + 2) * (-1) := Int.mul_le_mul_of_nonneg_left (by omega) (by omega)
    omega
  have hq1 : 1 ≤ q := by
    rcases (show q = 0 ∨ 1 ≤ q by omega) with hq | hq
    · rw [hq] at hneg; omega
    · exact hq
  have hsl : Nt.valTo ((S.set (j + (n + 2)) (t % 4294967296)).drop j) (n + 2) = Nt.valTo (S.drop j) (n + 2) := by rw [Nt.drop_set, Nt.valTo_set_lt _ _ (Nat.le_refl _)]
  rw [hsl] at ha
  have hlen : (S.set (j + (n + 2)) (t % 4294967296)).length = L.length := by rw [List.length_set]; exact h0.len
  obtain ⟨k1, k2⟩ := Nt.ab_end hP ha e.symm (Nt.valTo_nonneg (h.dig.drop j) (n + 2)) (Nt.valTo_lt (h.dig.drop j) (n + 2)) (by have := hend.1; omega) (by omega)
  refine ⟨?_, hq1, by omega, _, h.ku.set _ _, by rw [List.length_set, h.len, hlen], h.dig.set _ (by omega), ?_, by omega, by omega, ?_, ?_, h.only.setCell _ _⟩
  · rw [h.same _ (.inr (Nat.le_refl _))]
    simp [show j + (n + 2) < S.length by have := h0.len; omega]
  · intro k hk
    rw [List.getElem?_set_ne (by omega), h.same k (by omega), List.getElem?_set_ne (by omega)]
    exact h0.same k (by omega)
  · rw [Nt.drop_set, Nt.valTo_set _ _ (by rw [List.length_drop, h.len, hlen]; omega), k2, Int.sub_mul]; omega
  · rw [Nt.drop_set, Nt.valTo_set _ _ (by rw [List.length_drop, h.len, hlen]; omega), k2]; omega
theorem DigW.drewN {w' w : World} {g gv : Nat} {L v : List Int} (h : DigW w' w g gv L v) (k : Nat) : DigW (w'.drewN k) w g gv L v := ⟨h.1, h.2.1, h.2.2.trans (Only.drewN _ _ _)⟩
set_option maxHeartbeats 2000000 in
set_option maxRecDepth 100000 in
theorem digit_any (g gv j n cu cv : Nat) (L v : List Int) (w : World) (hk : KBlk .u32 w g 105 L) (hkv : KBlk .u32 w gv 105 v) (hne : gv ≠ g) (hj : j + (n + 2) + 1 ≤ L.length) (hvl : v.length = n + 2) (dL : Nt.Dig L) (dv : Nt.Dig v) (hn : n ≤ 1000000000) (hcu : n + 3 ≤ cu) (hcu' : cu ≤ maxLen) (hcv : n + 2 ≤ cv) (hcv' : cv ≤ maxLen) (htop : 2147483648 ≤ v[n + 1]?.getD 0) (hU : Nt.valTo (L.drop j) (n + 3) < 4294967296 * Nt.val v) :
    Calls Tryz.prog 209 #[.slice (some ⟨g, j, none⟩) (n + 3) cu, .slice (some ⟨gv, 0, none⟩) (n + 2) cv] w fun e w' => ∃ q, e = .returned (.int .u32 q) ∧ DigitF w w' g j (n + 2) L v q := by
  have c1 := hk.cell (i := j + (n + 2)) (by omega)
  have c2 := hk.cell (i := j + (n + 1)) (by omega)
  have c3 := hk.cell (i := j + n) (by omega)
  have d1 := hkv.cell (i := n + 1) (by omega)
  have d2 := hkv.cell (i := n) (by omega)
  have hv1 := dv.at (n + 1)
  have hv2 := dv.at n
  have hu0 := dL.at (j + (n + 2))
  have hu1 := dL.at (j + (n + 1))
  have hu2 := dL.at (j + n)
  obtain ⟨v1, ev1⟩ : ∃ x, x = v[n + 1]?.getD 0 := ⟨_, rfl⟩
  obtain ⟨v2, ev2⟩ : ∃ x, x = v[n]?.getD 0 := ⟨_, rfl⟩
  obtain ⟨u0, eu0⟩ : ∃ x, x = L[j + (n + 2)]?.getD 0 := ⟨_, rfl⟩
  obtain ⟨u1, eu1⟩ : ∃ x, x = L[j + (n + 1)]?.getD 0 := ⟨_, rfl⟩
  obtain ⟨u2, eu2⟩ : ∃ x, x = L[j + n]?.getD 0 := ⟨_, rfl⟩
  rw [← ev1] at d1 hv1 htop
  rw [← ev2] at d2 hv2
  rw [← eu0] at c1 hu0
  rw [← eu1] at c2 hu1
  rw [← eu2] at c3 hu2
  have Ev1 := Lib.hid ev1
  have Ev2 := Lib.hid ev2
  have Eu0 := Lib.hid eu0
  have Eu1 := Lib.hid eu1
  have Eu2 := Lib.hid eu2
  have HU := Lib.hid hU
  have DL := Lib.hid dL
  have Dv := Lib.hid dv
  have Hk := Lib.hid hk
  have Hkv := Lib.hid hkv
  have Hvl := Lib.hid hvl
  have Hj := Lib.hid hj
  clear ev1 ev2 eu0 eu1 eu2 hU dL dv hk hkv hvl hj
  go_enter Tryz.func209, Tryz.ntmps209
  go_wp2
  go_quiet (fail)
  rw [Nt.or_top hu0.1 hu0.2 hu1.1 hu1.2]
  obtain ⟨top, htop1⟩ : ∃ top, top = u0 * 4294967296 + u1 := ⟨_, rfl⟩
  have Htop := Lib.hid htop1
  have t0 : 0 ≤ top := by omega
  have t1 : top < 18446744073709551616 := by omega
  rw [← htop1]
  clear htop1
  have Hnq : Hid (KBlk .u32 (w.drewN nq) g 105 L ∧ KBlk .u32 (w.drewN nq) gv 105 v ∧ Only g w (w.drewN nq)) := ⟨Hk.out, Hkv.out, Only.drewN _ _ _⟩
  have e1 : (w.drewN nq).cell? ⟨gv, n + 1, none⟩ = some (.int .u32 v1) := d1
  have e2 : (w.drewN nq).cell? ⟨gv, n, none⟩ = some (.int .u32 v2) := d2
  have f2 : (w.drewN nq).cell? ⟨g, j + n, none⟩ = some (.int .u32 u2) := c3
  generalize w.drewN nq = wa at *
  clear d1 d2 c1 c2 c3 Hk Hkv
  have hv1b : (v1 == 0) = false := by rw [beq_eq_false_iff_ne]; omega
  go_wp2
  go_quiet (fail)
  have hT : Hid (Nt.DivFacts j n L v top u2 v1 v2) := Nt.div_facts Dv.out DL.out Hvl.out Hj.out Ev1.out Ev2.out Eu0.out Eu1.out Eu2.out Htop.out htop HU.out
  obtain ⟨T, hTd⟩ : ∃ T, T = Nt.valTo (L.drop j) (n + 3) / Nt.val v := ⟨_, rfl⟩
  have HTd := Lib.hid hTd
  clear hTd
  have Hst : Hid (Nt.Guess T top v1 v2 u2 (top / v1) (top % v1)) := by
    have h := hT.out
    exact Nt.Guess.start t0 (by omega) (by rw [HTd.out]; exact h.t0) (by rw [HTd.out]; exact h.ta) (by omega) (by omega)
  have b0 : 0 ≤ top / v1 := Int.ediv_nonneg t0 (by omega)
  have b1 : top / v1 ≤ 8589934592 := Int.ediv_le_of_le_mul (by omega) (by omega)
  have b2 : 0 ≤ top % v1 := Int.emod_nonneg _ (by omega)
  have b3 : top % v1 < 4294967296 := by have := Int.emod_lt_of_pos top (b := v1) (by omega); omega
  have Hnq1 : DigW wa w g gv L v := Hnq.out
  have Hnq2 : Hid (DigW (wa.drewN nq) w g gv L v) := Hnq1.drewN nq
  clear e1 e2 f2 Hnq Hnq1
  go_upto_block 0 with (fail)
  go_cut [7] (fun s7 wx => ∃ q : Int, s7 = .int .u64 q ∧ 0 ≤ q ∧ q < 4294967296 ∧ Hid (Nt.Good T top v1 v2 u2 q) ∧ Hid (DigW wx w g gv L v))
  case first =>
    generalize wa.drewN nq = wb at *
    go_wp2
    go_loopw [7, 8] (fun s7 s8 wr => ∃ q r : Int, s7 = .int .u64 q ∧ s8 = .int .u64 r ∧ 0 ≤ q ∧ q ≤ 8589934592 ∧ 0 ≤ r ∧ r < 4294967296 ∧ Hid (Nt.Guess T top v1 v2 u2 q r) ∧ Hid (DigW wr w g gv L v)) (fun s7 _ _ => (intOf s7).toNat)
    case atStart => exact ⟨_, _, rfl, rfl, b0, b1, b2, b3, Hst, Hnq2⟩
    case round =>
      obtain ⟨q, r, rfl, rfl, q0, q1, r0, r1, hg, hw⟩ := hrel
      clear b0 b1 b2 b3 Hst Hnq2
      have e1 : wr.cell? ⟨gv, n + 1, none⟩ = some (.int .u32 v1) := by rw [Ev1.out]; exact hw.out.2.1.cell (by have := Hvl.out; omega)
      have e2 : wr.cell? ⟨gv, n, none⟩ = some (.int .u32 v2) := by rw [Ev2.out]; exact hw.out.2.1.cell (by have := Hvl.out; omega)
      have f2 : wr.cell? ⟨g, j + n, none⟩ = some (.int .u32 u2) := by rw [Eu2.out]; exact hw.out.1.cell (by have := Hj.out; omega)
      by_cases hq : 4294967296 ≤ q
      · have hn' : Hid (Nt.Guess T top v1 v2 u2 (q - 1) (r + v1)) := hg.out.next (by rw [HTd.out]; exact hT.out.t0) (by rw [HTd.out]; exact hT.out.t1) (by rw [HTd.out]; exact hT.out.ta) (by omega) (by omega) (.inl hq)
        have hw2 : Hid (∀ k, DigW (wr.drewN k) w g gv L v) := fun k => hw.out.drewN k
        have ee1 : Hid (∀ k, (wr.drewN k).cell? ⟨gv, n + 1, none⟩ = some (.int .u32 v1)) := fun _ => e1
        clear hg hw
        go_wp2
        go_quiet (fail)
        have hw3 := Lib.hid (hw2.out nq)
        have e3 := ee1.out nq
        generalize wr.drewN nq = wq at *
        clear hw2 ee1 e1 e2 f2
        by_cases hr : 4294967296 ≤ r + v1
        · have hG : Hid (Nt.Good T top v1 v2 u2 (q - 1)) := hn'.out.broke (by have := Htop.out; have := hT.out; exact hT.out.tb) hr (by omega) (by omega) (by omega) (by omega)
          go_wp2
          go_meet
          exact ⟨q - 1, rfl, by omega, hG.out.q1, hG, hw3⟩
        · go_wp2
          go_roundw
          case rel => exact ⟨q - 1, r + v1, rfl, rfl, hn'.out.q0, by omega, by omega, by omega, hn', hw3⟩
          case measure => simp [intOf]; omega
      · by_cases ht : r * 4294967296 + u2 < q * v2
        · have hn' : Hid (Nt.Guess T top v1 v2 u2 (q - 1) (r + v1)) := hg.out.next (by rw [HTd.out]; exact hT.out.t0) (by rw [HTd.out]; exact hT.out.t1) (by rw [HTd.out]; exact hT.out.ta) (by omega) (by omega) (.inr ht)
          have qp : 1 ≤ q := by have := hn'.out.q0; omega
          have qp2 : q < 4294967296 := by omega
          have or1 := Nt.or_top r0 r1 hu2.1 hu2.2
          have hq1 : decide (4294967296 ≤ q) = false := by simpa using hq
          have mb := Nt.mul_bd32 (x := q) (y := v2) ⟨q0, by omega⟩ hv2
          have htd : decide (bits BinOp.or IntKind.u64 (r * 4294967296) u2 < q * v2) = true := by rw [or1]; simpa using ht
          have hw2 : Hid (∀ k, DigW (wr.drewN k) w g gv L v) := fun k => hw.out.drewN k
          have ee1 : Hid (∀ k, (wr.drewN k).cell? ⟨gv, n + 1, none⟩ = some (.int .u32 v1)) := fun _ => e1
          clear hg hw or1
          go_wp2
          go_quiet (fail)
          have hw3 := Lib.hid (hw2.out nq)
          have e3 := ee1.out nq
          generalize wr.drewN nq = wq at *
          clear hw2 ee1 e1 e2 f2
          by_cases hr : 4294967296 ≤ r + v1
          · have hG : Hid (Nt.Good T top v1 v2 u2 (q - 1)) := hn'.out.broke (by have := Htop.out; have := hT.out; exact hT.out.tb) hr (by omega) (by omega) (by omega) (by omega)
            go_wp2
            go_meet
            exact ⟨q - 1, rfl, by omega, hG.out.q1, hG, hw3⟩
          · go_wp2
            go_roundw
            case rel => exact ⟨by omega, by omega⟩
            case measure => simp [intOf]; omega
        · have hG : Hid (Nt.Good T top v1 v2 u2 q) := hg.out.good (by omega) (by omega)
          have or1 := Nt.or_top r0 r1 hu2.1 hu2.2
          have qp2 : q < 4294967296 := by omega
          have hq1 : decide (4294967296 ≤ q) = false := by simpa using hq
          have mb := Nt.mul_bd32 (x := q) (y := v2) ⟨q0, by omega⟩ hv2
          have htd : decide (bits BinOp.or IntKind.u64 (r * 4294967296) u2 < q * v2) = false := by rw [or1]; simpa using ht
          have hw2 : Hid (∀ k, DigW (wr.drewN k) w g gv L v) := fun k => hw.out.drewN k
          clear hg hw or1
          go_wp2
          go_quiet (fail)
          have hw3 := Lib.hid (hw2.out nq)
          clear hw2
          go_wp2
          go_meet
          exact ⟨q, rfl, q0, qp2, hG, hw3⟩
  case rest =>
    obtain ⟨q, rfl, q0, q1, hG, hw⟩ := hcut
    clear b0 b1 b2 b3 Hst Hnq2
    go_wp2
    go_loopw [9, 10, 86] (fun cv bv iv wr => ∃ (i : Nat) (cr bo : Int) (S : List Int), i ≤ n + 2 ∧ 0 ≤ cr ∧ cr ≤ 4294967295 ∧ 0 ≤ bo ∧ bo ≤ 1 ∧ cv = .int .u64 cr ∧ bv = .int .u64 bo ∧ iv = .int .i64 i ∧ DigS wr w g gv j n i L v S q cr bo) (fun _ _ iv _ => n + 2 - (intOf iv).toNat)
    case atStart => exact ⟨0, 0, 0, L, by omega, by omega, by omega, by omega, by omega, rfl, rfl, rfl, hw.out.1, hw.out.2.1, hw.out.2.2, rfl, DL.out, by simp [Nt.valTo_zero], fun _ _ => rfl⟩
    case round =>
      obtain ⟨i, cr, bo, S, hi, c0, c1, o0, o1, rfl, rfl, rfl, hs⟩ := hrel
      clear hw
      by_cases hin : i < n + 2
      · have hv := hs.kv.cell (i := i) (by have := Hvl.out; omega)
        have hu := hs.ku.cell (i := j + i) (by have := Hj.out; have := hs.len; omega)
        have hf := hs.ku.frozen (j + i)
        have hd := Dv.out.at i
        have hx := hs.dig.at (j + i)
        have mb := Nt.mul_bd32 (x := q) (y := v[i]?.getD 0) ⟨q0, q1⟩ hd
        obtain ⟨d, hdd⟩ : ∃ d, d = v[i]?.getD 0 := ⟨_, rfl⟩
        obtain ⟨x, hxx⟩ : ∃ x, x = S[j + i]?.getD 0 := ⟨_, rfl⟩
        have Hs := Lib.hid hs
        have Hdd := Lib.hid hdd
        have Hxx := Lib.hid hxx
        rw [← hdd] at hv hd mb
        rw [← hxx] at hu hx
        have mb0 := mb.1
        have mb1 := mb.2
        have hne' : g ≠ gv := fun h => hne h.symm
        have q00 := Hs.out.next (p := q * d + cr) (t := x - (q * d + cr) % 4294967296 - bo) hne Hj.out hin Hdd.out Hxx.out rfl rfl (by omega) (by omega)
        have Hn := Lib.hid q00
        have hlo := Nt.sub_low2 (x := x) (r := (q * d + cr) % 4294967296) (bo := bo) hx.1 hx.2 (by omega) (by omega) o0 o1
        have Hlo := Lib.hid hlo
        clear hs hdd hxx mb q00 hlo
        go_wp2
        go_roundw
        case rel =>
          rw [Hlo.out.1, Hlo.out.2]
          exact ⟨i + 1, _, _, _, by omega, by omega, by omega, by split <;> omega, by split <;> omega, rfl, rfl, by go_num, Hn.out⟩
        case measure => simp [intOf]; omega
      · obtain rfl : i = n + 2 := by omega
        have hu := hs.ku.cell (i := j + (n + 2)) (by have := Hj.out; have := hs.len; omega)
        have hf := hs.ku.frozen (j + (n + 2))
        rw [hs.same _ (.inr (Nat.le_refl _)), ← Eu0.out] at hu
        have hlo := Nt.sub_low2 (x := u0) (r := cr) (bo := bo) hu0.1 hu0.2 c0 (by omega) o0 o1
        have Hs := Lib.hid hs
        by_cases ht : u0 - cr - bo < 0
        · rw [if_pos ht] at hlo
          obtain ⟨lo1, lo2⟩ := hlo
          have Hlo := Lib.hid lo1
          clear hs lo1
          go_wp2
          obtain ⟨tt, htt⟩ : ∃ tt, tt = u0 - cr - bo := ⟨_, rfl⟩
          have Htt := Lib.hid htt
          rw [← htt] at ht
          have tt0 : -4294967296 ≤ tt := by omega
          have Hk0 : Hid (DigA (wr.setCell ⟨g, j + (n + 2), none⟩ (.int .u32 (IntKind.u64.wrap (IntKind.u64.wrap (u0 - cr) - bo) % 4294967296))) w g gv j n 0 (S.set (j + (n + 2)) (tt % 4294967296)) v (S.set (j + (n + 2)) (tt % 4294967296)) 0) := by
            rw [Hlo.out, ← Htt.out]
            exact ⟨Hs.out.ku.set _ _, Hs.out.kv.far (p := ⟨g, j + (n + 2), none⟩) hne _, Hs.out.only.setCell _ _, rfl, Hs.out.dig.set _ (by omega), by simp [Nt.valTo_zero], fun _ _ => rfl⟩
          generalize wr.setCell ⟨g, j + (n + 2), none⟩ (.int .u32 (IntKind.u64.wrap (IntKind.u64.wrap (u0 - cr) - bo) % 4294967296)) = ws at *
          clear htt lo2 hu hf Hlo
          obtain ⟨wo, rfl⟩ : ∃ wo : World, wo = wr := ⟨_, rfl⟩
          go_loopw [9, 139] (fun cv iv wr => ∃ (i : Nat) (c : Int) (R : List Int), i ≤ n + 2 ∧ 0 ≤ c ∧ c ≤ 1 ∧ cv = .int .u64 c ∧ iv = .int .i64 i ∧ DigA wr w g gv j n i (S.set (j + (n + 2)) (tt % 4294967296)) v R c) (fun _ iv _ => n + 2 - (intOf iv).toNat)
          case atStart => exact ⟨0, 0, _, by omega, by omega, by omega, rfl, rfl, Hk0.out⟩
          case round =>
            obtain ⟨i, c, R, hi, c0, c1, rfl, rfl, hr⟩ := hrel
            clear Hk0
            have hM : (S.set (j + (n + 2)) (tt % 4294967296)).length = L.length := by rw [List.length_set]; exact Hs.out.len
            by_cases hin : i < n + 2
            · have hv := hr.kv.cell (i := i) (by have := Hvl.out; omega)
              have hu := hr.ku.cell (i := j + i) (by have := Hj.out; have := hr.len; omega)
              have hf := hr.ku.frozen (j + i)
              have hd := Dv.out.at i
              have hx := hr.dig.at (j + i)
              obtain ⟨d, hdd⟩ : ∃ d, d = v[i]?.getD 0 := ⟨_, rfl⟩
              obtain ⟨x, hxx⟩ : ∃ x, x = R[j + i]?.getD 0 := ⟨_, rfl⟩
              have Hn := Lib.hid (hr.next (t := x + d + c) hne (by have := Hj.out; omega) hin hdd hxx rfl)
              rw [← hdd] at hv hd
              rw [← hxx] at hu hx
              clear hr hdd hxx hM
              go_wp2
              go_roundw
              case rel => exact ⟨i + 1, _, _, by omega, by omega, by omega, rfl, by go_num, Hn.out⟩
              case measure => simp [intOf]; omega
            · obtain rfl : i = n + 2 := by omega
              obtain ⟨z1, z2, z3, z4⟩ := DigA.done Hs.out hr Hj.out Hvl.out Dv.out DL.out Eu0.out Htt.out (by omega) tt0 q0 q1 hT.out HTd.out hG.out (by omega) hv2.1
              have hu := hr.ku.cell (i := j + (n + 2)) (by have := Hj.out; have := hr.len; omega)
              have hf := hr.ku.frozen (j + (n + 2))
              rw [z1] at hu
              have HF := Lib.hid z4
              have Hz := Lib.hid z3
              obtain ⟨y, hy⟩ : ∃ y, y = tt % 4294967296 := ⟨_, rfl⟩
              rw [← hy] at hu
              have Hy := Lib.hid hy
              have y0 : 0 ≤ y := by omega
              have y1 : y < 4294967296 := by omega
              clear z1 z3 z4 hr hM hy
              go_wp2
              go_ret
              rw [Hy.out, Hz.out]
              exact ⟨q - 1, rfl, HF.out⟩
        · rw [if_neg ht] at hlo
          obtain ⟨lo1, lo2⟩ := hlo
          have Hlo := Lib.hid lo1
          have HF := Lib.hid (hs.done Hj.out Hvl.out Dv.out DL.out Eu0.out rfl (by omega) (by omega) q0 q1 hT.out HTd.out hG.out (by omega) hv2.1)
          have e : (u0 - cr - bo) % 4294967296 = u0 - cr - bo := by omega
          have He := Lib.hid e
          have e2 : ((u0 - cr - bo) / 9223372036854775808 == 0) = true := by rw [beq_iff_eq]; omega
          clear hs lo1 lo2 e
          go_wp2
          go_ret
          exact ⟨q, rfl, HF.out⟩
end Go.Proofs.YtnedhbidmfoegaaGreat
namespace Go.Proofs.YtnedhbidmfoegaaGreat
open Go.RowKit
set_option linter.unusedVariables false
namespace Nt
theorem small_step {Q x : List Int} {i : Nat} {r y t : Int} (hy : 0 < y) (hi : i < Q.length) (hx : i < x.length) (h : val (x.drop (i + 1)) = val (Q.drop (i + 1)) * y + r) (ht : t = r * 4294967296 + x[i]?.getD 0) :
    val (x.drop i) = val ((Q.set i (t / y)).drop i) * y + t % y := by
  rw [val_drop_set _ hi, val_drop hx, h]
  have e := Int.mul_ediv_add_emod t y
  generalize t / y = q at *
  generalize t % y = s at *
  grind
theorem small_bd {r y t d : Int} (hy : 0 < y) (r0 : 0 ≤ r) (r1 : r < y) (d0 : 0 ≤ d) (d1 : d < 4294967296) (ht : t = r * 4294967296 + d) : 0 ≤ t / y ∧ t / y < 4294967296 ∧ 0 ≤ t % y ∧ t % y < y := by
  refine ⟨Int.ediv_nonneg (by omega) (by omega), ?_, Int.emod_nonneg _ (by omega), Int.emod_lt_of_pos _ hy⟩
  apply Int.ediv_lt_of_lt_mul hy
  have : (r + 1) * 4294967296 ≤ y * 4294967296 := Int.mul_le_mul_of_nonneg_right (by omega) (by omega)
  omega
theorem div_of {a b q r : Int} (hb : 0 < b) (h : a = q * b + r) (r0 : 0 ≤ r) (r1 : r < b) : a / b = q ∧ a % b = r := by
  have e : a = r + b * q := by rw [h, Int.mul_comm]; omega
  constructor
  · rw [e, Int.add_mul_ediv_left _ _ (by omega), Int.ediv_eq_zero_of_lt r0 r1]; omega
  · rw [e, Int.add_mul_emod_self_left, Int.emod_eq_of_lt r0 r1]
end Nt
theorem NatF.below {w0 w w' : World} {A : Option Addr} {n c v : Nat} (h : NatF w0 w A n c v) (hb : Below w.heap.size w w') : NatF w0 w' A n c v := ⟨h.1, h.2.1.below hb, fun hp => by obtain ⟨a, e, k, t⟩ := h.2.2 hp; exact ⟨a, e, k, t.below hb⟩⟩
/-- What a division answers: the quotient and the remainder, in memory made since w0. -/
def DivF (w0 w : World) (e : Ending) (a b : Int) : Prop := ∃ A1 n1 c1 A2 n2 c2, e = .returned (.tuple #[.slice A1 n1 c1, .slice A2 n2 c2]) ∧ NatF w0 w A1 n1 c1 (a / b).toNat ∧ NatF w0 w A2 n2 c2 (a % b).toNat ∧ Below w0.heap.size w0 w
theorem divide_lt (A B : Option Addr) (n c m d : Nat) (a b : List Int) (w : World) (ha : SlR .u32 w A n c a) (hb : SlR .u32 w B m d b) (da : Nt.Dig a) (db : Nt.Dig b) (na : Nt.Norm a) (hn : n ≤ 1000000000) (hlt : Nt.val a < Nt.val b) :
    Calls Tryz.prog 193 #[.slice A n c, .slice B m d] w fun e w' => DivF w w' e (Nt.val a) (Nt.val b) := by
  have hcmp : Nt.cmpS (Nt.val a) (Nt.val b) = -1 := by unfold Nt.cmpS; rw [if_pos hlt]
  have Hcmp := Lib.hid hcmp
  have Hlt := Lib.hid hlt
  have Hna := Lib.hid (Nt.norm_eq da na)
  have Hn0 := Lib.hid (Nt.val_nonneg da)
  clear hcmp hlt na
  go_enter Tryz.func193, Tryz.ntmps193
  go_wp2_with fail
  refine (Compare_any _ _ _ _ _ _ _ _ _ ha hb da db).mono ?_
  rintro e w1 ⟨rfl, q, rfl⟩
  rw [Hcmp.out]
  go_wp2_with fail
  refine (CloneU_any _ _ _ _ _ (ha.drewN q) hn).mono ?_
  rintro e w1 ⟨A', c', rfl, hs, hf, hbl⟩
  have Hs := Lib.hid hs
  have Hf := Lib.hid hf
  have Hb := Lib.hid hbl
  clear hs hf hbl
  go_wp2
  go_ret2
  have e1 : Nt.val a / Nt.val b = 0 := Int.ediv_eq_zero_of_lt Hn0.out Hlt.out
  have e2 : Nt.val a % Nt.val b = Nt.val a := Int.emod_eq_of_lt Hn0.out Hlt.out
  refine ⟨none, 0, 0, A', n, c', rfl, ?_, ?_, ⟨Hb.out.os, Hb.out.tape, Hb.out.output, Hb.out.size, Hb.out.block⟩⟩
  · rw [e1]
    exact ⟨by simp [Nt.digits_zero], by simp [Nt.digits_zero]; exact SlR.nil _ _ _ (Nat.zero_le _), fun h => absurd h (by omega)⟩
  · rw [e2]
    exact ⟨by rw [← Hna.out]; exact ha.1.symm, by rw [← Hna.out]; exact Hs.out, Hf.out⟩
set_option maxHeartbeats 2000000 in
set_option maxRecDepth 100000 in
theorem divide_one (A B : Option Addr) (n c d : Nat) (a : List Int) (y : Int) (w : World) (ha : SlR .u32 w A n c a) (hb : SlR .u32 w B 1 d [y]) (da : Nt.Dig a) (db : 0 ≤ y ∧ y < 4294967296) (hy : 0 < y) (hn : n ≤ 1000000000) (hge : y ≤ Nt.val a) :
    Calls Tryz.prog 193 #[.slice A n c, .slice B 1 d] w fun e w' => DivF w w' e (Nt.val a) (Nt.val [y]) := by
  have hcmp : 0 ≤ Nt.cmpS (Nt.val a) (Nt.val [y]) := by
    have hv1 : Nt.val [y] = y := by simp [Nt.val]
    rw [hv1]; unfold Nt.cmpS; rw [if_neg (by omega)]; split <;> omega
  have hn1 : 1 ≤ n := by
    rcases Nat.eq_zero_or_pos n with h | h
    · have := ha.1
      have : a = [] := List.eq_nil_of_length_eq_zero (by omega)
      rw [this] at hge; simp [Nt.val] at hge; omega
    · exact h
  obtain ⟨s, hs⟩ : ∃ s, s = Nt.cmpS (Nt.val a) (Nt.val [y]) := ⟨_, rfl⟩
  have Hs := Lib.hid hs
  have hlen : Hid (a.length = n) := ha.1
  have Hda := Lib.hid da
  have hyb : (y == 0) = false := by rw [beq_eq_false_iff_ne]; omega
  rw [← hs] at hcmp
  clear hs hge
  go_enter Tryz.func193, Tryz.ntmps193
  go_wp2_with fail
  refine (Compare_any _ _ _ _ _ _ _ _ _ ha hb da (Nt.Dig.cons db Nt.Dig.nil)).mono ?_
  rintro e w1 ⟨rfl, q, rfl⟩
  rw [← Hs.out]
  clear Hs
  go_wp2_with (at_make; refine wpList_makeK _ rfl (.tmp 27) (.tmp 27) _ rfl 105 .u32 4 Tryz.underlying22 u32_info _ _ _ _ n rfl rfl ?L ?C ?b2 ?b3 ?_)
  case L => show _ = _; omega
  case C => show _ = _; omega
  case b2 => omega
  case b3 => unfold maxLen; omega
  intro w2 hk2 hb2' hz2
  have hb2 : Below w.heap.size w w2 := ⟨hb2'.os, hb2'.tape, hb2'.output, hb2'.size, hb2'.block⟩
  obtain ⟨g, hg⟩ : ∃ g, g = w.heap.size := ⟨_, rfl⟩
  have hgw : w.heap.size ≤ g := by omega
  rw [← hg] at hk2 ⊢
  have hab : SlR .u32 w A n c a := ha
  have hbb : SlR .u32 w B 1 d [y] := hb
  clear ha hb hz2 hb2' hg da
  go_wp2
  go_loopw [8, 9] (fun rv iv wr => ∃ (i : Nat) (r : Int) (Q : List Int), i ≤ n ∧ 0 ≤ r ∧ r < y ∧ rv = .int .u64 r ∧ iv = .int .i64 ((i : Int) - 1) ∧ KBlk .u32 wr g 105 Q ∧ Hid (Q.length = n) ∧ Hid (Nt.Dig Q) ∧ Hid (Nt.val (a.drop i) = Nt.val (Q.drop i) * y + r) ∧ Below w.heap.size w wr) (fun _ iv _ => (intOf iv + 1).toNat)
  case atStart => exact ⟨n, 0, _, by omega, by omega, by omega, rfl, rfl, hk2, by simp [Hid], Nt.Dig.repl _, by have := hlen.out; show _ = _; rw [Nt.val_drop_all (by omega), Nt.val_drop_all (by simp)]; simp, hb2⟩
  case round =>
    obtain ⟨i, r, Q, hin, r0, r1, rfl, rfl, hk, hQ, dQ, hv, hbr⟩ := hrel
    clear hk2 hb2
    rcases i with _ | i
    · have hv0 := hv.out
      simp only [List.drop_zero] at hv0
      have hdm := Nt.div_of hy hv0 r0 r1
      have hsl := hk.slr_all (n := n) (c := n) hQ.out (by omega) (by unfold maxLen; omega)
      have hfr := strip_fresh (w0 := w) hk hQ.out (by unfold maxLen; omega) dQ.out hgw
      have ev : Nt.val Q = Nt.val a / Nt.val [y] := by simp only [Nt.val, Int.mul_zero, Int.add_zero]; exact hdm.1.symm
      have er : r = Nt.val a % Nt.val [y] := by simp only [Nt.val, Int.mul_zero, Int.add_zero]; exact hdm.2.symm
      rw [ev] at hfr
      have HF := Lib.hid hfr
      have Her := Lib.hid er
      have r2 : r < 4294967296 := by omega
      clear hv hv0 hdm hfr ev er
      go_wp2_with fail
      refine (cut_any _ _ _ _ _ hsl).mono ?_
      rintro e w1 ⟨rfl, rfl⟩
      go_wp2_with fail
      refine (cut_any _ _ _ _ _ ((KBlk.new wr 105 [r]).slr_all (n := 1) (c := 1) rfl (Nat.le_refl _) (by decide))).mono ?_
      rintro e w1 ⟨rfl, rfl⟩
      have hf2 := strip_fresh (w0 := w) (m := 1) (KBlk.new wr 105 [r]) rfl (by decide) (Nt.Dig.cons ⟨r0, r2⟩ Nt.Dig.nil) (by have := hbr.size; omega)
      have hvr : Nt.val [r] = Nt.val a % Nt.val [y] := by rw [← Her.out]; simp [Nt.val]
      rw [hvr] at hf2
      have HF2 := Lib.hid hf2
      have HB : Hid (Below w.heap.size w (wr.alloc (.cells #[.int .u32 r] 105))) := hbr.alloc hbr.size _
      have HF1 : Hid (NatF w (wr.alloc (.cells #[.int .u32 r] 105)) (some ⟨g, 0, none⟩) (Nt.strip Q).length n (Nt.val a / Nt.val [y]).toNat) := HF.out.below ((Below.refl _ _).alloc (Nat.le_refl _) _)
      clear hf2 hvr Her
      go_wp2
      go_ret2
      exact ⟨_, _, _, _, _, _, rfl, HF1.out, HF2.out, HB.out⟩
    · obtain ⟨b1, o1, rfl, hlt, hc1⟩ := (hab.below hbr).pos (i := i) (by omega)
      obtain ⟨b2, o2, rfl, hlt2, hc2⟩ := (hbb.below hbr).pos (i := 0) (by omega)
      have hlt3 := (hbb.pos (i := 0) (by omega))
      obtain ⟨_, _, he', hlt3, _⟩ := hlt3
      have hb2g : b2 ≠ g := by cases he'; omega
      clear he' hlt3
      simp only [List.getElem?_cons_zero, Option.getD_some, Nat.add_zero] at hc2
      have hcq := hk.cell (i := i) (by have := hQ.out; omega)
      have hfq := hk.frozen i
      have hx := Hda.out.at i
      obtain ⟨x, hxx⟩ : ∃ x, x = a[i]?.getD 0 := ⟨_, rfl⟩
      rw [← hxx] at hc1 hx
      have Hx := Lib.hid hxx
      have hbd := Nt.small_bd hy r0 r1 hx.1 hx.2 rfl
      have Hst := Lib.hid (Nt.small_step (t := r * 4294967296 + x) hy (by have := hQ.out; omega) (by have := hlen.out; omega) hv.out (by rw [hxx]))
      have or1 := Nt.or_top r0 (by omega) hx.1 hx.2
      have hbd0 := hbd.1
      have hbd1 := hbd.2.1
      have hin' : (i : Int) < n := by omega
      clear hv hxx
      go_wp2
      go_roundw
      case rel => exact ⟨i, _, _, by omega, hbd.2.2.1, hbd.2.2.2, rfl, by go_num, hk.set i _, by have := hQ.out; show _ = _; simpa using this, dQ.out.set i ⟨hbd0, hbd1⟩, Hst.out, hbr.setCell (p := ⟨g, i, none⟩) hgw _⟩
      case measure => simp [intOf]
end Go.Proofs.YtnedhbidmfoegaaGreat
namespace Go.Proofs.YtnedhbidmfoegaaGreat
open Go.RowKit
set_option linter.unusedVariables false
namespace Nt
theorem norm_last {l : List Int} {k : Nat} (hn : Norm l) (hl : l.length = k + 1) : l[k]?.getD 0 ≠ 0 := by
  intro h
  have e := take_snoc l k (by omega)
  rw [List.take_of_length_le (by omega), h] at e
  unfold Norm at hn
  have h1 := strip_length_le (l.take k)
  rw [e, strip_snoc_zero] at hn
  have := congrArg List.length hn
  simp at this
  have h2 : (strip (l.take k)).length ≤ k := by simp at h1; omega
  omega
/-- The divisor, lifted: nothing goes over, and its highest bit is set. -/
theorem liftv {b v : List Int} {N : Nat} {z lo y : Int} (db : Dig b) (hb : b.length = N + 2) (dv : Dig v) (hv : v.length = N + 2) (hlo : 0 ≤ lo) (h : val v + lo * pw (N + 2) = val b * z) (hz : 0 < z) (hy : y = b[N + 1]?.getD 0) (h1 : 2147483648 ≤ y * z) (h2 : (y + 1) * z ≤ 4294967296) : val v = val b * z ∧ 2147483648 ≤ v[N + 1]?.getD 0 := by
  have hp := pw_pos (N + 1)
  have eb : val b = valTo b (N + 1) + pw (N + 1) * y := by rw [← valTo_all b (n := N + 2) (by omega), valTo_succ, ← hy]
  have ev : val v = valTo v (N + 1) + pw (N + 1) * v[N + 1]?.getD 0 := by rw [← valTo_all v (n := N + 2) (by omega), valTo_succ]
  have b0 := valTo_nonneg db (N + 1)
  have b1 := valTo_lt db (N + 1)
  have v1 := valTo_lt dv (N + 1)
  have v0 := val_nonneg dv
  have ep : pw (N + 2) = 4294967296 * pw (N + 1) := rfl
  have hlt : val b * z < pw (N + 2) := by
    have k1 : val b * z < (pw (N + 1) * (y + 1)) * z := Int.mul_lt_mul_of_pos_right (by rw [eb, Int.mul_add]; omega) hz
    have k2 : (pw (N + 1) * (y + 1)) * z ≤ pw (N + 1) * 4294967296 := by rw [Int.mul_assoc]; exact Int.mul_le_mul_of_nonneg_left h2 (by omega)
    omega
  have hl0 : lo = 0 := by
    rcases (show lo = 0 ∨ 1 ≤ lo by omega) with h' | h'
    · exact h'
    · have : 1 * pw (N + 2) ≤ lo * pw (N + 2) := Int.mul_le_mul_of_nonneg_right h' (by omega)
      omega
  rw [hl0] at h
  have e : val v = val b * z := by omega
  refine ⟨e, ?_⟩
  have k3 : pw (N + 1) * (y * z) ≤ val v := by
    rw [e, eb, Int.add_mul, Int.mul_assoc]
    have : 0 ≤ valTo b (N + 1) * z := Int.mul_nonneg b0 (by omega)
    omega
  have k4 : pw (N + 1) * 2147483648 ≤ pw (N + 1) * (y * z) := Int.mul_le_mul_of_nonneg_left h1 (by omega)
  have k5 : pw (N + 1) * 2147483648 < pw (N + 1) * (v[N + 1]?.getD 0 + 1) := by rw [Int.mul_add _ _ 1]; omega
  have := Int.lt_of_mul_lt_mul_left k5 (by omega)
  omega
/-- The dividend, lifted: above it is less than the divisor. -/
theorem liftu {a u v : List Int} {n N M : Nat} {z lo : Int} (da : Dig a) (ha : a.length = n) (du : Dig u) (hu : val u = val a * z) (hM : M + (N + 1) = n) (hz : 0 < z) (hz2 : z ≤ 2147483648) (dv : Dig v) (hv : v.length = N + 2) (hv1 : 2147483648 ≤ v[N + 1]?.getD 0) : val (u.drop M) < val v := by
  have a1 := val_lt da
  rw [ha, ← hM, pw_add] at a1
  have e := val_take_drop u M
  have u0 := valTo_nonneg du M
  have hp := pw_pos M
  have hp1 := pw_pos (N + 1)
  have ev : val v = valTo v (N + 1) + pw (N + 1) * v[N + 1]?.getD 0 := by rw [← valTo_all v (n := N + 2) (by omega), valTo_succ]
  have v0 := valTo_nonneg dv (N + 1)
  have k1 : val a * z < pw M * pw (N + 1) * z := Int.mul_lt_mul_of_pos_right a1 hz
  have k2 : pw M * val (u.drop M) < pw M * (pw (N + 1) * z) := by rw [← Int.mul_assoc]; omega
  have k3 := Int.lt_of_mul_lt_mul_left k2 (by omega)
  have k4 : pw (N + 1) * z ≤ pw (N + 1) * v[N + 1]?.getD 0 := Int.mul_le_mul_of_nonneg_left (by omega) (by omega)
  omega
/-- What the long division keeps. -/
structure DivL (i N : Nat) (A V : Int) (U Q : List Int) : Prop where
  dU : Dig U
  dQ : Dig Q
  sum : A = val (Q.drop i) * pw i * V + val U
  low : val (U.drop i) < V
theorem DivL.start {a u v Q : List Int} {i N : Nat} {A : Int} (du : Dig u) (dQ : Dig Q) (hQ : Q.length ≤ i) (hA : A = val u) (hl : val (u.drop i) < val v) : DivL i N A (val v) u Q :=
  ⟨du, dQ, by rw [val_drop_all hQ, hA]; simp, hl⟩
theorem DivL.pre {j N : Nat} {A : Int} {U Q v : List Int} (h : DivL (j + 1) N A (val v) U Q) (hj : j < U.length) (hv : v.length = N + 2) (dv : Dig v) : valTo (U.drop j) (N + 3) < 4294967296 * val v := by
  have h1 := val_drop (l := U) hj
  have h2 := h.low
  have h3 := h.dU.at j
  have h4 := val_lt dv
  have e := val_take_drop (U.drop j) (N + 3)
  have h5 := val_nonneg ((h.dU.drop j).drop (N + 3))
  have hp := pw_pos (N + 3)
  have : 0 ≤ pw (N + 3) * val ((U.drop j).drop (N + 3)) := Int.mul_nonneg (by omega) h5
  omega
theorem drop_same {U U' : List Int} {j : Nat} (hl : U'.length = U.length) (h : ∀ k, j ≤ k → U'[k]? = U[k]?) : U'.drop j = U.drop j := by
  apply List.ext_getElem?
  intro k
  rw [List.getElem?_drop, List.getElem?_drop]
  exact h _ (by omega)
theorem take_same {U U' : List Int} {j : Nat} (h : ∀ k, k < j → U'[k]? = U[k]?) : U'.take j = U.take j := by
  apply List.ext_getElem?
  intro k
  rcases Nat.lt_or_ge k j with hk | hk
  · rw [List.getElem?_take_of_lt hk, List.getElem?_take_of_lt hk]; exact h k hk
  · rw [List.getElem?_take_eq_none hk, List.getElem?_take_eq_none hk]
theorem DivL.next {j N : Nat} {A q : Int} {U U' Q v : List Int} (h : DivL (j + 1) N A (val v) U Q) (hj : j < U.length) (hjQ : j < Q.length) (hv : v.length = N + 2) (dv : Dig v) (hl : U'.length = U.length) (dU' : Dig U') (hs : ∀ k, k < j ∨ j + (N + 2) + 1 ≤ k → U'[k]? = U[k]?) (q0 : 0 ≤ q) (q1 : q < 4294967296) (he : valTo (U.drop j) (N + 3) = q * val v + valTo (U'.drop j) (N + 3)) (hlt : valTo (U'.drop j) (N + 3) < val v) :
    DivL j N A (val v) U' (Q.set j q) := by
  have e1 := val_take_drop (U.drop j) (N + 3)
  have e2 := val_take_drop (U'.drop j) (N + 3)
  rw [List.drop_drop] at e1 e2
  have e3 : U'.drop (j + (N + 3)) = U.drop (j + (N + 3)) := drop_same hl (fun k hk => hs k (by omega))
  rw [e3] at e2
  have e4 : val (U.drop (j + (N + 3))) = 0 := by
    have k1 : val (U.drop (j + 1)) < pw (N + 2) := by have := h.low; have := val_lt dv; rw [hv] at this; omega
    have k2 := (val_low (h.dU.drop (j + 1)) k1).1
    rw [List.drop_drop, show j + 1 + (N + 2) = j + (N + 3) by omega] at k2
    exact k2
  rw [e4] at e1 e2
  have e5 := val_take_drop U j
  have e6 := val_take_drop U' j
  have e7 : valTo U' j = valTo U j := by unfold valTo; rw [take_same (fun k hk => hs k (.inl hk))]
  refine ⟨dU', h.dQ.set _ ⟨q0, q1⟩, ?_, by omega⟩
  rw [val_drop_set _ hjQ, h.sum, e5, e6, e7, e1, e2, he, pw]
  grind
theorem div_end {a b z Q U : Int} (hz : 0 < z) (h : a * z = Q * (b * z) + U) (u0 : 0 ≤ U) (u1 : U < b * z) : a / b = Q ∧ a % b = U / z := by
  have hb : 0 < b := by
    rcases Int.lt_or_le 0 b with h' | h'
    · exact h'
    · have := Int.mul_nonpos_of_nonpos_of_nonneg h' (Int.le_of_lt hz); omega
  have e : U = (a - Q * b) * z := by grind
  have e2 : U / z = a - Q * b := by rw [e]; exact Int.mul_ediv_cancel _ (by omega)
  have h0 : 0 ≤ a - Q * b := Int.nonneg_of_mul_nonneg_left (by omega) hz
  have h1 : a - Q * b < b := by rw [e] at u1; exact Int.lt_of_mul_lt_mul_right u1 (by omega)
  rw [e2]
  exact div_of hb (by omega) h0 h1
end Nt
end Go.Proofs.YtnedhbidmfoegaaGreat
namespace Go.Proofs.YtnedhbidmfoegaaGreat
open Go.RowKit
set_option linter.unusedVariables false
structure DivW (wr w : World) (gu gv gq i N n M : Nat) (A : Int) (v U Q : List Int) : Prop where
  ku : KBlk .u32 wr gu 105 U
  kv : KBlk .u32 wr gv 105 v
  kq : KBlk .u32 wr gq 105 Q
  lu : U.length = n + 1
  lq : Q.length = M
  d : Nt.DivL i N A (Nt.val v) U Q
  bel : Below w.heap.size w wr
theorem DivW.fin {wr w w6 : World} {gu gv gq N n M z gl : Nat} {a b v U Q SL : List Int} (h : DivW wr w gu gv gq 0 N n M (Nt.val a * 2 ^ z) v U Q) (hv : v.length = N + 2) (dv : Nt.Dig v) (ev : Nt.val v = Nt.val b * 2 ^ z) (hgw : w.heap.size ≤ gq) (hM : M ≤ 1000000000) (hn : n ≤ 1000000000) (hN : N + 2 ≤ n) (hb : Below wr.heap.size wr w6) (l1 : wr.heap.size ≤ gl) (l2 : KBlk .u32 w6 gl 105 SL) (l3 : SL.length = N + 2) (l4 : Nt.Dig SL) (l5 : Nt.val SL = Nt.val (U.take (N + 2)) / 2 ^ z) :
    DivF w w6 (.returned (.tuple #[.slice (some ⟨gq, 0, none⟩) (Nt.strip Q).length M, .slice (some ⟨gl, 0, none⟩) (Nt.strip SL).length (N + 2)])) (Nt.val a) (Nt.val b) := by
  have hlow := h.d.low
  have hsum := h.d.sum
  simp only [List.drop_zero, Nt.pw, Int.mul_one] at hlow hsum
  have hU0 := Nt.val_nonneg h.d.dU
  have e1 : Nt.val (U.take (N + 2)) = Nt.val U := (Nt.val_low h.d.dU (n := N + 2) (by have := Nt.val_lt dv; rw [hv] at this; omega)).2
  have hb2 := h.bel.size
  obtain ⟨q1, q2⟩ := Nt.div_end (a := Nt.val a) (b := Nt.val b) (Q := Nt.val Q) (U := Nt.val U) (Nt.p2_pos z) (by rw [hsum, ev]) hU0 (by omega)
  have f1 := strip_fresh (w0 := w) (h.kq.below hb h.kq.lt) h.lq (by unfold maxLen; omega) h.d.dQ hgw
  have f2 := strip_fresh (w0 := w) l2 l3 (by unfold maxLen; omega) l4 (by omega)
  rw [l5, e1, ← q2] at f2
  rw [← q1] at f1
  exact ⟨_, _, _, _, _, _, rfl, f1, f2, h.bel.trans (hb.mono hb2)⟩
set_option maxHeartbeats 2000000 in
set_option maxRecDepth 100000 in
theorem divide_long (A B : Option Addr) (n c N d : Nat) (a b : List Int) (w : World) (ha : SlR .u32 w A n c a) (hb : SlR .u32 w B (N + 2) d b) (da : Nt.Dig a) (db : Nt.Dig b) (na : Nt.Norm a) (nb : Nt.Norm b) (hn : n ≤ 1000000000) (hge : Nt.val b ≤ Nt.val a) :
    Calls Tryz.prog 193 #[.slice A n c, .slice B (N + 2) d] w fun e w' => DivF w w' e (Nt.val a) (Nt.val b) := by
  have hcmp : 0 ≤ Nt.cmpS (Nt.val a) (Nt.val b) := by unfold Nt.cmpS; rw [if_neg (by omega)]; split <;> omega
  have hn1 : N + 2 ≤ n := by
    rcases Nat.lt_or_ge n (N + 2) with h | h
    · have := Nt.len_lt da db nb (by rw [ha.1, hb.1]; exact h)
      omega
    · exact h
  obtain ⟨M, hM⟩ : ∃ M, n = M + (N + 1) := ⟨n - (N + 1), by omega⟩
  have hla := Lib.hid ha.1
  have hlb := Lib.hid hb.1
  have hyt := Nt.norm_last (k := N + 1) nb hb.1
  have hyd := db.at (N + 1)
  obtain ⟨y, hyy⟩ : ∃ y, y = b[N + 1]?.getD 0 := ⟨_, rfl⟩
  have hby := hb.pos (i := N + 1) (by omega)
  rw [← hyy] at hyt hyd hby
  have Hyy := Lib.hid hyy
  obtain ⟨z, hz1, hz2, hz3, hz4⟩ := lz_spec (x := y.toNat) (by omega) (by omega)
  have Hz1 := Lib.hid hz1
  have Hz3 : Hid (2147483648 ≤ y * 2 ^ z ∧ (y + 1) * 2 ^ z ≤ 4294967296) := by
    have e : ((y.toNat * 2 ^ z : Nat) : Int) = y * 2 ^ z := by rw [Int.natCast_mul, Int.natCast_pow]; congr 1; omega
    have hs := Nt.p2_split hz2
    have p0 := Nt.p2_pos z
    refine ⟨by omega, ?_⟩
    have h4 : y * 2 ^ z < 2 ^ (32 - z) * 2 ^ z := by rw [Int.mul_comm (2 ^ (32 - z)), hs]; omega
    have h5 := Int.lt_of_mul_lt_mul_right h4 (by omega)
    have h6 : (y + 1) * 2 ^ z ≤ 2 ^ (32 - z) * 2 ^ z := Int.mul_le_mul_of_nonneg_right (by omega) (by omega)
    rw [Int.mul_comm (2 ^ (32 - z)), hs] at h6
    exact h6
  obtain ⟨b1, o1, rfl, hb1, hc1⟩ := hby
  obtain ⟨s, hs⟩ : ∃ s, s = Nt.cmpS (Nt.val a) (Nt.val b) := ⟨_, rfl⟩
  have Hs := Lib.hid hs
  have Hna := Lib.hid na
  have Hnb := Lib.hid nb
  have Hda := Lib.hid da
  have Hdb := Lib.hid db
  have HM := Lib.hid hM
  have hMn : M + (N + 1) ≤ n ∧ n ≤ M + (N + 1) := by omega
  rw [← hs] at hcmp
  clear hs hge na nb hz1 hz3 hz4 hyy hM
  go_enter Tryz.func193, Tryz.ntmps193
  go_wp2_with fail
  refine (Compare_any _ _ _ _ _ _ _ _ _ ha hb da db).mono ?_
  rintro e w1 ⟨rfl, q, rfl⟩
  rw [← Hs.out]
  clear Hs
  have hb0 : ((N : Int) + 2 == 1) = false := by rw [beq_eq_false_iff_ne]; omega
  go_wp2_with (at_make; refine wpList_makeK _ rfl (.tmp 27) (.tmp 27) _ rfl 105 .u32 4 Tryz.underlying22 u32_info _ _ _ _ M rfl rfl ?L ?C ?b2 ?b3 ?_)
  case L => show _ = _; omega
  case C => show _ = _; omega
  case b2 => omega
  case b3 => unfold maxLen; omega
  intro w2 hk2 hb2' hz2'
  have hb2 : Below w.heap.size w w2 := ⟨hb2'.os, hb2'.tape, hb2'.output, hb2'.size, hb2'.block⟩
  have hc2 : w2.cell? ⟨b1, o1 + (N + 1), none⟩ = some (.int .u32 y) := (hb2.cell (p := ⟨b1, o1 + (N + 1), none⟩) hb1).trans hc1
  obtain ⟨gq, hg⟩ : ∃ g, g = w.heap.size := ⟨_, rfl⟩
  have hgw : w.heap.size ≤ gq := by omega
  have hgq : gq < w2.heap.size := by omega
  have ha2 := ha.below hb2
  have hb2s := hb.below hb2
  rw [← hg] at hk2 ⊢
  clear hz2' hg hb2' hc1
  go_wp2_with fail
  refine (LeadingZeros32_any y _ hyd.1 hyd.2).mono ?_
  rintro e w1 ⟨rfl, rfl⟩
  rw [Hz1.out]
  have hlz : (0 : Int) ≤ (z : Int) ∧ (z : Int) < 32 := by omega
  go_wp2_with fail
  refine (lift_any _ _ _ z (n + 1) _ _ ha2 da hn hz2 (.inr rfl)).mono ?_
  rintro e w3 ⟨gu, rfl, hL1, hb3⟩
  have hb13 : Below w.heap.size w w3 := hb2.trans (hb3.mono hb2.size)
  have hL1' := Lib.hid hL1
  clear hL1
  go_wp2_with fail
  refine (lift_any _ _ _ z (N + 2) _ _ (hb2s.below hb3) db (by omega) hz2 (.inl rfl)).mono ?_
  rintro e w4 ⟨gv, rfl, hL2, hb4⟩
  have Hst : Hid (∃ U v, DivW w4 w gu gv gq M N n M (Nt.val a * 2 ^ z) v U (List.replicate M 0) ∧ Nt.Dig v ∧ v.length = N + 2 ∧ Nt.val v = Nt.val b * 2 ^ z ∧ 2147483648 ≤ v[N + 1]?.getD 0 ∧ gu ≠ gv ∧ gq ≠ gu ∧ gq ≠ gv ∧ w.heap.size ≤ gu) := by
    obtain ⟨U, lo, p1, p2, p3, p4, p5, p6, p7⟩ := hL1'.out
    obtain ⟨v, lo2, q1, q2, q3, q4, q5, q6, q7⟩ := hL2
    have hlt := p2.lt
    have hp0 := Nt.p2_pos z
    obtain ⟨l1, l2⟩ := Nt.liftv Hdb.out hlb.out q4 q3 q5 q7 hp0 Hyy.out Hz3.out.1 Hz3.out.2
    rw [p6 rfl] at p7
    have hU : Nt.val U = Nt.val a * 2 ^ z := by omega
    have l3 := Nt.liftu (z := 2 ^ z) (N := N) (M := M) (lo := 0) Hda.out hla.out p4 hU (by have := HM.out; omega) hp0 (Nt.p2_le hz2) q4 q3 l2
    refine ⟨U, v, ⟨p2.below hb4 hlt, q2, (hk2.below hb3 hgq).below hb4 (by have := hb3.size; omega), p3, by simp, Nt.DivL.start (a := a) p4 (Nt.Dig.repl _) (by simp) hU.symm l3, hb13.trans (hb4.mono hb13.size)⟩, q4, q3, l1, l2, by omega, by omega, by have := hb3.size; omega, by have := hb2.size; omega⟩
  clear hk2 ha2 hb2s hb2 hc2 hb3 hb13 hL1' hb4 hL2
  obtain ⟨U0, v, hW, dv, lv, ev, tv, n1, n2, n3, n4⟩ := Hst.out
  have HW := Lib.hid hW
  have Hdv := Lib.hid dv
  have Hlv := Lib.hid lv
  have Hev := Lib.hid ev
  have Htv := Lib.hid tv
  clear Hst hW dv lv ev tv ha hb da db Hz1 Hz3 Hyy
  go_wp2
  go_loopw [14] (fun iv wr => ∃ (i : Nat) (U Q : List Int), i ≤ M ∧ iv = .int .i64 ((i : Int) - 1) ∧ DivW wr w gu gv gq i N n M (Nt.val a * 2 ^ z) v U Q) (fun iv _ => (intOf iv + 1).toNat)
  case atStart => exact ⟨M, _, _, by omega, by congr 1; omega, HW.out⟩
  case round =>
    obtain ⟨i, U, Q, hi, rfl, hr⟩ := hrel
    clear HW
    rcases i with _ | j
    · have Hr := Lib.hid hr
      clear hr
      go_wp2
      have hsq : SlR .u32 wr (some ⟨gq, 0, none⟩) M M Q := Hr.out.kq.slr_all Hr.out.lq (Nat.le_refl _) (by unfold maxLen; omega)
      have hsu : SlR .u32 wr (some ⟨gu, 0, none⟩) (N + 2) (n + 1) (U.take (N + 2)) := Hr.out.ku.slr (by have := Hr.out.lu; omega) (by omega) (by unfold maxLen; omega)
      have Hdu := Lib.hid (Hr.out.d.dU.take (N + 2))
      have hN1 : (N : Int) + 2 ≤ (n : Int) + 1 := by omega
      go_region_with (first
        | (go_at_call_of 187 (Value.slice (some ⟨gq, 0, none⟩) M M); refine (cut_any (some ⟨gq, 0, none⟩) M M Q _ ?_).mono ?_; (first | exact hsq | exact hsq.below hbl); rintro e w' ⟨rfl, rfl⟩)
        | (go_at_call 210; refine (lower_any _ _ _ z _ _ ?_ Hdu.out (by omega) hz2).mono ?_; exact hsu; rintro e w6 ⟨gl, rfl, ⟨SL, l1, l2, l3, l4, l5⟩, hbl⟩)
        | (go_at_call 187; refine (cut_any _ _ _ SL _ ?_).mono ?_; exact l2.slr_all l3 (Nat.le_refl _) (by unfold maxLen; omega); rintro e w' ⟨rfl, rfl⟩))
      all_goals
        have HF := Lib.hid (Hr.out.fin (w6 := w6) (b := b) Hlv.out Hdv.out Hev.out hgw (by omega) hn hn1 ⟨hbl.os, hbl.tape, hbl.output, hbl.size, hbl.block⟩ l1 l2 l3 l4 l5)
        clear l1 l2 l3 l4 l5 hbl
        go_wp2
        go_ret2
        exact HF.out
    · have hU := Lib.hid (hr.d.pre (by have := hr.lu; omega) Hlv.out Hdv.out)
      have Hr := Lib.hid hr
      have hfq := hr.kq.frozen j
      have hcq := hr.kq.cell (i := j) (by have := hr.lq; omega)
      have hjn : (j : Int) + (N + 2) + 1 ≤ (n : Int) + 1 := by omega
      clear hr
      go_wp2_with fail
      rw [show j + (N + 2) + 1 - j = N + 3 by omega]
      refine (digit_any gu gv j N (n + 1 - j) (N + 2) U v wr Hr.out.ku Hr.out.kv (fun h => n1 h.symm) (by have := Hr.out.lu; omega) Hlv.out Hr.out.d.dU Hdv.out (by omega) (by omega) (by unfold maxLen; omega) (Nat.le_refl _) (by unfold maxLen; omega) Htv.out hU.out).mono ?_
      rintro e w5 ⟨qd, rfl, hD⟩
      have HD := Lib.hid hD
      have Hn : Hid (∃ U', DivW (w5.setCell ⟨gq, j, none⟩ (.int .u32 qd)) w gu gv gq j N n M (Nt.val a * 2 ^ z) v U' (Q.set j qd)) := by
        obtain ⟨U', d1, d2, d3, d4, d5, d6, d7, d8, d9⟩ := hD
        have hq := Hr.out.kq.only d9 n2
        exact ⟨U', d1.far (p := ⟨gq, j, none⟩) (fun h => n2 h.symm) _, (Hr.out.kv.only d9 (fun h => n1 h.symm)).far (p := ⟨gq, j, none⟩) (fun h => n3 h.symm) _, hq.set j qd, by rw [d2]; exact Hr.out.lu, by rw [List.length_set]; exact Hr.out.lq, Hr.out.d.next (by have := Hr.out.lu; omega) (by have := Hr.out.lq; omega) Hlv.out Hdv.out d2 d3 d4 d5 d6 d7 d8, (Below.only Hr.out.bel d9 n4).setCell (p := ⟨gq, j, none⟩) hgw _⟩
      have hq : Hid (KBlk .u32 w5 gq 105 Q) := by
        obtain ⟨U', d1, d2, d3, d4, d5, d6, d7, d8, d9⟩ := hD
        exact Hr.out.kq.only d9 n2
      have hfq := hq.out.frozen j
      have hcq := hq.out.cell (i := j) (by have := Hr.out.lq; omega)
      have hjM : (j : Int) < M := by omega
      clear hD HD hU Hr
      go_wp2
      go_roundw
      case rel =>
        obtain ⟨U', h'⟩ := Hn.out
        exact ⟨j, U', _, by omega, rfl, h'⟩
      case measure => simp [intOf]
theorem divide_any (A B : Option Addr) (n c m d : Nat) (a b : List Int) (w : World) (ha : SlR .u32 w A n c a) (hb : SlR .u32 w B m d b) (da : Nt.Dig a) (db : Nt.Dig b) (na : Nt.Norm a) (nb : Nt.Norm b) (hn : n ≤ 1000000000) (hm : 0 < m) :
    Calls Tryz.prog 193 #[.slice A n c, .slice B m d] w fun e w' => DivF w w' e (Nt.val a) (Nt.val b) := by
  rcases Int.lt_or_le (Nt.val a) (Nt.val b) with h | h
  · exact divide_lt _ _ _ _ _ _ _ _ _ ha hb da db na hn h
  · rcases m with _ | _ | N
    · omega
    · obtain ⟨y, rfl⟩ : ∃ y, b = [y] := List.length_eq_one_iff.1 hb.1
      have hy := db.head
      have hl := Nt.norm_last (k := 0) nb rfl
      simp at hl
      exact divide_one _ _ _ _ _ _ _ _ ha hb da hy (by omega) hn (by simpa [Nt.val] using h)
    · exact divide_long _ _ _ _ _ _ _ _ _ ha hb da db na nb hn h
end Go.Proofs.YtnedhbidmfoegaaGreat
namespace Go.Proofs.YtnedhbidmfoegaaGreat
open Go.RowKit
set_option linter.unusedVariables false
/-- What DivMod answers where the divisor is not 0. -/
def DivMF (w0 w : World) (e : Ending) (a b : Int) : Prop := ∃ A1 n1 c1 A2 n2 c2, e = .returned (.tuple #[.slice A1 n1 c1, .slice A2 n2 c2, .int .i64 0]) ∧ NatF w0 w A1 n1 c1 (a / b).toNat ∧ NatF w0 w A2 n2 c2 (a % b).toNat ∧ Below w0.heap.size w0 w
theorem DivMod_any (A B : Option Addr) (n c m d : Nat) (a b : List Int) (w : World) (ha : SlR .u32 w A n c a) (hb : SlR .u32 w B m d b) (da : Nt.Dig a) (db : Nt.Dig b) (hn : n ≤ 1000000000) (hz : Nt.val b ≠ 0) :
    Calls Tryz.prog 181 #[.slice A n c, .slice B m d] w fun e w' => DivMF w w' e (Nt.val a) (Nt.val b) := by
  have lx : (Nt.strip a).length ≤ n := by rw [← ha.1]; exact Nt.strip_length_le a
  have ly : (Nt.strip b).length ≤ m := by rw [← hb.1]; exact Nt.strip_length_le b
  have hx := ha.upto (m := (Nt.strip a).length) lx
  have hy := hb.upto (m := (Nt.strip b).length) ly
  rw [← Nt.strip_take] at hx hy
  have hp : 0 < (Nt.strip b).length := by
    rcases Nat.eq_zero_or_pos (Nt.strip b).length with h | h
    · exfalso
      apply hz
      rw [← Nt.strip_val, List.eq_nil_of_length_eq_zero h]; rfl
    · exact h
  have hpb : (((Nt.strip b).length : Int) == 0) = false := by rw [beq_eq_false_iff_ne]; omega
  go_enter Tryz.func181, Tryz.ntmps181
  go_wp2_with fail
  refine (cut_any _ _ _ _ _ hb).mono ?_
  rintro e w1 ⟨rfl, rfl⟩
  go_wp2_with fail
  refine (cut_any _ _ _ _ _ ha).mono ?_
  rintro e w1 ⟨rfl, rfl⟩
  go_wp2_with fail
  refine (divide_any _ _ _ _ _ _ _ _ _ hx hy (Nt.strip_dig da) (Nt.strip_dig db) (Nt.strip_norm a) (Nt.strip_norm b) (by omega) hp).mono ?_
  rintro e w1 ⟨A1, n1, c1, A2, n2, c2, rfl, f1, f2, hbl⟩
  rw [Nt.strip_val, Nt.strip_val] at f1 f2
  have F1 := Lib.hid f1
  have F2 := Lib.hid f2
  clear f1 f2
  go_wp2
  go_ret3
  exact ⟨A1, n1, c1, A2, n2, c2, rfl, F1.out, F2.out, hbl⟩
namespace Nt
theorem or_zero {x : Int} (h0 : 0 ≤ x) (h1 : x < 4294967296) : bits .or .u64 0 x = x := by
  have := or_top (x := 0) (y := x) (by omega) (by omega) h0 h1
  simpa using this
theorem or_swap {x y : Int} (h0 : 0 ≤ x) (h1 : x < 4294967296) (k0 : 0 ≤ y) (k1 : y < 4294967296) : bits .or .u64 x (y * 4294967296) = x + y * 4294967296 := by
  have hc : bits .or .u64 x (y * 4294967296) = bits .or .u64 (y * 4294967296) x := by simp only [bits, BitVec.or_comm]
  rw [hc, or_top k0 k1 h0 h1]; omega
end Nt
theorem small_any (A : Option Addr) (n c : Nat) (a : List Int) (w : World) (ha : SlR .u32 w A n c a) (da : Nt.Dig a) (hn : n ≤ 2) :
    Calls Tryz.prog 194 #[.slice A n c] w fun e w' => e = .returned (.int .u64 (Nt.val a)) ∧ w = w' := by
  have hl := Lib.hid ha.1
  have Hd := Lib.hid da
  clear da
  go_enter Tryz.func194, Tryz.ntmps194
  go_wp2
  go_loop [3, 8] (fun v iv => ∃ i : Nat, i ≤ n ∧ iv = .int .i64 i ∧ v = .int .u64 (Nt.valTo a i)) (fun _ iv => n - (intOf iv).toNat)
  case atStart => exact ⟨0, by omega, rfl, by rw [Nt.valTo_zero]⟩
  case round =>
    obtain ⟨i, hi, rfl, rfl⟩ := hrel
    by_cases hin : i < n
    · obtain ⟨b1, o1, rfl, _, hc1⟩ := ha.pos hin
      have hx := Hd.out.at i
      have Hs := Lib.hid (Nt.valTo_succ a i)
      obtain ⟨x, hxx⟩ : ∃ x, x = a[i]?.getD 0 := ⟨_, rfl⟩
      rw [← hxx] at hc1 hx
      have Hx := Lib.hid hxx
      clear hxx
      rcases i with _ | _ | i
      · have or1 := Nt.or_zero hx.1 hx.2
        have Hr : Hid (Nt.valTo a 1 = x) := by have := Hs.out; rw [Nt.valTo_zero, ← Hx.out] at this; show _ = _; simpa [Nt.pw] using this
        rw [Nt.valTo_zero]
        simp only [Nat.add_zero] at hc1
        go_wp2
        go_round
        case rel => exact ⟨1, by omega, by go_num, by rw [Hr.out]⟩
        case measure => simp [intOf]; omega
      · have h1 := Nt.valTo_nonneg Hd.out 1
        have h2 := Nt.valTo_lt Hd.out 1
        have or1 := Nt.or_swap h1 h2 hx.1 hx.2
        have Hr : Hid (Nt.valTo a 2 = Nt.valTo a 1 + x * 4294967296) := by have := Hs.out; rw [← Hx.out] at this; simp only [Nt.pw, Nat.zero_add] at this; show _ = _; rw [this]; omega
        have h2' : Nt.valTo a 1 < 4294967296 := h2
        clear h2
        go_wp2
        go_round
        case rel => exact ⟨2, by omega, by go_num, by rw [Hr.out]⟩
        case measure => simp [intOf]; omega
      · omega
    · obtain rfl : i = n := by omega
      go_wp2
      go_ret
      exact ⟨by rw [Nt.valTo_all a (by have := hl.out; omega)]; rfl, rfl⟩
end Go.Proofs.YtnedhbidmfoegaaGreat
namespace Go.Proofs.YtnedhbidmfoegaaGreat.Nt
set_option linter.unusedVariables false

/-- What the loop of cofactors keeps: x and y are the numbers, p0 and q0 what they begin with, at the scale K / Z. -/
structure Leh (x y p0 q0 p q a b c d : Int) : Prop where
  ep : p = a * p0 + b * q0
  eq : q = c * p0 + d * q0
  sign : (0 ≤ a ∧ b ≤ 0 ∧ c ≤ 0 ∧ 0 ≤ d) ∨ (a ≤ 0 ∧ 0 ≤ b ∧ 0 ≤ c ∧ d ≤ 0)
  pa : 0 ≤ p + a
  pb : 0 ≤ p + b
  qc : 0 ≤ q + c
  qd : 0 ≤ q + d
  ba : -2147483647 ≤ a ∧ a ≤ 2147483647
  bb : -2147483647 ≤ b ∧ b ≤ 2147483647
  bc : -2147483647 ≤ c ∧ c ≤ 2147483647
  bd : -2147483647 ≤ d ∧ d ≤ 2147483647
  y0 : 0 ≤ c * x + d * y
  yx : c * x + d * y ≤ a * x + b * y
  xx : a * x + b * y ≤ x
  less : (a = 1 ∧ b = 0 ∧ c = 0 ∧ d = 1) ∨ c * x + d * y < y
  xy : (a = 1 ∧ b = 0 ∧ c = 0 ∧ d = 1) ∨ a * x + b * y ≤ y
  gcd : Int.gcd (a * x + b * y) (c * x + d * y) = Int.gcd x y
  pm : p ≤ 4611686018427387904
  qm : q ≤ 4611686018427387904

theorem Leh.start {x y p0 q0 : Int} (hy : 0 ≤ y) (hxy : y ≤ x) (hp : 0 ≤ p0) (hq : 0 ≤ q0) (hp' : p0 ≤ 4611686018427387904) (hq' : q0 ≤ 4611686018427387904) : Leh x y p0 q0 p0 q0 1 0 0 1 := by
  refine ⟨by omega, by omega, by omega, by omega, by omega, by omega, by omega, by omega, by omega, by omega, by omega, by omega, by omega, by omega, .inl ⟨rfl, rfl, rfl, rfl⟩, .inl ⟨rfl, rfl, rfl, rfl⟩, by simp, hp', hq'⟩
theorem Leh.p0 {x y p0 q0 p q a b c d : Int} (h : Leh x y p0 q0 p q a b c d) : 0 ≤ p := by
  have := h.pa; have := h.pb; rcases h.sign with s | s <;> omega
theorem Leh.q0 {x y p0 q0 p q a b c d : Int} (h : Leh x y p0 q0 p q a b c d) : 0 ≤ q := by
  have := h.qc; have := h.qd; rcases h.sign with s | s <;> omega

theorem fl {n m f : Int} (hm : 0 < m) (hf : f = n / m) : 0 ≤ n - f * m ∧ n - f * m < m := by
  have e := Int.mul_ediv_add_emod n m
  have h0 := Int.emod_nonneg n (b := m) (by omega)
  have h1 := Int.emod_lt_of_pos n hm
  rw [hf, Int.mul_comm]; omega

/-- The corners decide: r K + e ex + g ey is not negative. -/
theorem corner_ge {r e g K ex ey : Int} (hK : 0 ≤ K) (hx0 : 0 ≤ ex) (hx1 : ex ≤ K) (hy0 : 0 ≤ ey) (hy1 : ey ≤ K) (h : (0 ≤ e ∧ g ≤ 0 ∧ 0 ≤ r + g) ∨ (e ≤ 0 ∧ 0 ≤ g ∧ 0 ≤ r + e)) : 0 ≤ r * K + e * ex + g * ey := by
  rcases h with ⟨h1, h2, h3⟩ | ⟨h1, h2, h3⟩
  · have a1 : 0 ≤ e * ex := Int.mul_nonneg h1 hx0
    have a2 : g * K ≤ g * ey := Int.mul_le_mul_of_nonpos_left h2 hy1
    have a3 : 0 ≤ (r + g) * K := Int.mul_nonneg h3 hK
    rw [Int.add_mul] at a3
    omega
  · have a1 : 0 ≤ g * ey := Int.mul_nonneg h2 hy0
    have a2 : e * K ≤ e * ex := Int.mul_le_mul_of_nonpos_left h1 hx1
    have a3 : 0 ≤ (r + e) * K := Int.mul_nonneg h3 hK
    rw [Int.add_mul] at a3
    omega

/-- One step: f is the quotient of all numbers that begin with p and q. -/
theorem Leh.step {x y p0 q0 p q a b c d f K Z ex ey : Int} (h : Leh x y p0 q0 p q a b c d) (hK : 0 < K) (hZ : 0 < Z)
    (hx : x * Z = p0 * K + ex) (hx0 : 0 ≤ ex) (hx1 : ex < K) (hy : y * Z = q0 * K + ey) (hy0 : 0 ≤ ey) (hy1 : ey < K)
    (h1 : q + c ≠ 0) (h2 : q + d ≠ 0) (f1 : f = (p + a) / (q + c)) (f2 : f = (p + b) / (q + d))
    (be : -2147483647 ≤ a - f * c ∧ a - f * c ≤ 2147483647) (bg : -2147483647 ≤ b - f * d ∧ b - f * d ≤ 2147483647) :
    Leh x y p0 q0 q (p - f * q) c d (a - f * c) (b - f * d) ∧ (p - f * q) + (a - f * c) < q + c := by
  have u1 := fl (by have := h.qc; omega) f1
  have u2 := fl (by have := h.qd; omega) f2
  have f0 : 0 ≤ f := by rw [f1]; exact Int.ediv_nonneg h.pa h.qc
  have q0' := h.q0
  have hqm := h.qm
  have hpm := h.pm
  have e1 : (p - f * q) + (a - f * c) = (p + a) - f * (q + c) := by grind
  have e2 : (p - f * q) + (b - f * d) = (p + b) - f * (q + d) := by grind
  have s : (0 ≤ c ∧ d ≤ 0 ∧ a - f * c ≤ 0 ∧ 0 ≤ b - f * d) ∨ (c ≤ 0 ∧ 0 ≤ d ∧ 0 ≤ a - f * c ∧ b - f * d ≤ 0) := by
    rcases h.sign with ⟨s1, s2, s3, s4⟩ | ⟨s1, s2, s3, s4⟩
    · have := Int.mul_nonpos_of_nonneg_of_nonpos f0 s3
      have := Int.mul_nonneg f0 s4
      omega
    · have := Int.mul_nonpos_of_nonneg_of_nonpos f0 s4
      have := Int.mul_nonneg f0 s3
      omega
  -- the remainder is not negative
  have r0 : 0 ≤ (a - f * c) * x + (b - f * d) * y := by
    have k := corner_ge (r := p - f * q) (e := a - f * c) (g := b - f * d) (K := K) (ex := ex) (ey := ey) (by omega) hx0 (by omega) hy0 (by omega) (by omega)
    have e : (p - f * q) * K + (a - f * c) * ex + (b - f * d) * ey = ((a - f * c) * x + (b - f * d) * y) * Z := by
      have ex' : ex = x * Z - p0 * K := by omega
      have ey' : ey = y * Z - q0 * K := by omega
      rw [ex', ey', h.ep, h.eq]; grind
    rw [e] at k
    exact Int.nonneg_of_mul_nonneg_left k hZ
  -- and less than the divisor
  have r1 : (a - f * c) * x + (b - f * d) * y < c * x + d * y := by
    have k := corner_ge (r := -(p - f * q - q) - 1) (e := -(a - f * c - c)) (g := -(b - f * d - d)) (K := K) (ex := ex) (ey := ey) (by omega) hx0 (by omega) hy0 (by omega)
      (by rcases s with s | s
          · exact .inl ⟨by omega, by omega, by omega⟩
          · exact .inr ⟨by omega, by omega, by omega⟩)
    have e : (-(p - f * q - q) - 1) * K + -(a - f * c - c) * ex + -(b - f * d - d) * ey = (c * x + d * y - ((a - f * c) * x + (b - f * d) * y)) * Z - K := by
      have ex' : ex = x * Z - p0 * K := by omega
      have ey' : ey = y * Z - q0 * K := by omega
      rw [ex', ey', h.ep, h.eq]; grind
    rw [e] at k
    have k' : 0 < (c * x + d * y - ((a - f * c) * x + (b - f * d) * y)) * Z := by omega
    rcases Int.lt_or_le 0 (c * x + d * y - ((a - f * c) * x + (b - f * d) * y)) with h' | h'
    · omega
    · have := Int.mul_nonpos_of_nonpos_of_nonneg h' (Int.le_of_lt hZ)
      omega
  refine ⟨⟨h.eq, by rw [h.ep, h.eq]; grind, s, h.qc, h.qd, by omega, by omega, h.bc, h.bd, be, bg, r0, by omega, ?_, ?_, ?_, ?_, hqm, ?_⟩, by omega⟩
  · have := h.yx; have := h.xx; omega
  · right
    rcases h.xy with ⟨_, _, rfl, rfl⟩ | hxy
    · omega
    · have := h.yx; omega
  · right
    rcases h.less with ⟨_, _, rfl, rfl⟩ | hl
    · omega
    · omega
  · rw [← h.gcd]
    have e : (a - f * c) * x + (b - f * d) * y = (a * x + b * y) - f * (c * x + d * y) := by grind
    rw [e, Int.gcd_comm, Int.sub_eq_add_neg, ← Int.neg_mul, Int.gcd_add_mul_right_left]
  · have : 0 ≤ f * q := Int.mul_nonneg f0 q0'
    omega

/-- The combination's step. -/
theorem comb_step {S x y : List Int} {i : Nat} {f g cy t : Int} (hi : i < S.length) (h : valTo S i + cy * pw i = f * valTo x i + g * valTo y i) (ht : t = f * x[i]?.getD 0 + cy + g * y[i]?.getD 0) :
    valTo (S.set i (t % 4294967296)) (i + 1) + (t / 4294967296) * pw (i + 1) = f * valTo x (i + 1) + g * valTo y (i + 1) := by
  rw [valTo_set S _ hi, valTo_succ, valTo_succ, pw]
  have e := Int.mul_ediv_add_emod t 4294967296
  generalize t % 4294967296 = r at *
  generalize t / 4294967296 = q at *
  grind
theorem mul_range {f d : Int} (h0 : -2147483647 ≤ f) (h1 : f ≤ 2147483647) (d0 : 0 ≤ d) (d1 : d < 4294967296) : -9223372030412324865 ≤ f * d ∧ f * d ≤ 9223372030412324865 ∧ (0 ≤ f → 0 ≤ f * d) ∧ (f ≤ 0 → f * d ≤ 0) := by
  have a1 : f * d ≤ 2147483647 * d := Int.mul_le_mul_of_nonneg_right h1 d0
  have a2 : -2147483647 * d ≤ f * d := Int.mul_le_mul_of_nonneg_right h0 d0
  exact ⟨by omega, by omega, fun h => Int.mul_nonneg h d0, fun h => Int.mul_nonpos_of_nonpos_of_nonneg h d0⟩
theorem mul_range2 {f c : Int} (h0 : 0 ≤ f) (h1 : f ≤ 2147483647) (d0 : -2147483647 ≤ c) (d1 : c ≤ 2147483647) : -4611686014132420609 ≤ f * c ∧ f * c ≤ 4611686014132420609 := by
  have a1 : f * c ≤ f * 2147483647 := Int.mul_le_mul_of_nonneg_left d1 h0
  have a2 : f * (-2147483647) ≤ f * c := Int.mul_le_mul_of_nonneg_left d0 h0
  omega
end Go.Proofs.YtnedhbidmfoegaaGreat.Nt
namespace Go.Proofs.YtnedhbidmfoegaaGreat
open Go.RowKit
set_option linter.unusedVariables false
set_option maxHeartbeats 2000000 in
theorem combine_any (A B : Option Addr) (n c m d : Nat) (x y : List Int) (f g : Int) (w : World) (ha : SlR .u32 w A n c x) (hb : SlR .u32 w B m d y) (da : Nt.Dig x) (db : Nt.Dig y) (hn : n ≤ 1000000000) (hm : m ≤ n)
    (f0 : -2147483647 ≤ f) (f1 : f ≤ 2147483647) (g0 : -2147483647 ≤ g) (g1 : g ≤ 2147483647) (hfg : (0 ≤ f ∧ g ≤ 0) ∨ (f ≤ 0 ∧ 0 ≤ g)) (h0 : 0 ≤ f * Nt.val x + g * Nt.val y) (h1 : f * Nt.val x + g * Nt.val y ≤ Nt.val x) :
    Calls Tryz.prog 207 #[.slice A n c, .slice B m d, .int .i64 f, .int .i64 g] w fun e w' => ∃ A' n' c', e = .returned (.slice A' n' c') ∧ NatF w w' A' n' c' (f * Nt.val x + g * Nt.val y).toNat ∧ Below w.heap.size w w' := by
  have hlx := Lib.hid ha.1
  have hly := Lib.hid hb.1
  have Hda := Lib.hid da
  have Hdb := Lib.hid db
  have Hfg := Lib.hid hfg
  have H0 := Lib.hid h0
  have H1 := Lib.hid h1
  clear hfg h0 h1 da db
  go_enter Tryz.func207, Tryz.ntmps207
  go_wp2_with (at_make; refine wpList_makeK _ rfl (.tmp 15) (.tmp 15) _ rfl 105 .u32 4 Tryz.underlying22 u32_info _ _ _ _ n rfl rfl ?L ?C ?b2 ?b3 ?_)
  case L => rfl
  case C => rfl
  case b2 => omega
  case b3 => unfold maxLen; omega
  intro w2 hk2 hb2' hz2
  have hb2 : Below w.heap.size w w2 := hb2'
  obtain ⟨gr, hg⟩ : ∃ g, g = w.heap.size := ⟨_, rfl⟩
  have hgw : w.heap.size ≤ gr := by omega
  rw [← hg] at hk2 ⊢
  clear hz2 hg hb2'
  go_wp2
  go_loopw [10, 19] (fun cv iv wr => ∃ (i : Nat) (cy : Int) (S : List Int), i ≤ n ∧ -2147483648 ≤ cy ∧ cy ≤ 2147483648 ∧ cv = .int .i64 cy ∧ iv = .int .i64 i ∧ KBlk .u32 wr gr 105 S ∧ Hid (S.length = n) ∧ Hid (Nt.Dig S) ∧ Hid (Nt.valTo S i + cy * Nt.pw i = f * Nt.valTo x i + g * Nt.valTo y i) ∧ Below w.heap.size w wr) (fun _ iv _ => n - (intOf iv).toNat)
  case atStart => exact ⟨0, 0, _, by omega, by omega, by omega, rfl, rfl, hk2, by simp [Hid], Nt.Dig.repl _, by simp [Hid, Nt.valTo_zero], hb2⟩
  case round =>
    obtain ⟨i, cy, S, hi, c0, c1, rfl, rfl, hk, hS, dS, hv, hbr⟩ := hrel
    clear hk2 hb2
    by_cases hiX : i < n
    · obtain ⟨b1, o1, rfl, _, hc1⟩ := (ha.below hbr).pos hiX
      have q1 := Hda.out.at i
      have hc3 := hk.cell (i := i) (by have := hS.out; omega)
      have hf3 := hk.frozen i
      obtain ⟨xi, hxi⟩ : ∃ xi, xi = x[i]?.getD 0 := ⟨_, rfl⟩
      rw [← hxi] at hc1 q1
      have Hxi := Lib.hid hxi
      have r1 := Nt.mul_range f0 f1 q1.1 q1.2
      clear hxi
      by_cases hiY : i < m
      · obtain ⟨b2, o2, rfl, _, hc2⟩ := (hb.below hbr).pos hiY
        have q2 := Hdb.out.at i
        obtain ⟨yi, hyi⟩ : ∃ yi, yi = y[i]?.getD 0 := ⟨_, rfl⟩
        rw [← hyi] at hc2 q2
        have Hyi := Lib.hid hyi
        have r2 := Nt.mul_range g0 g1 q2.1 q2.2
        have hiY' : (i : Int) < m := by omega
        have Hst := Lib.hid (Nt.comb_step (t := f * xi + cy + g * yi) (by have := hS.out; omega) hv.out (by rw [Hxi.out, Hyi.out]))
        have t0 : -9223372034707292161 ≤ f * xi + cy + g * yi := by rcases Hfg.out with ⟨k1, k2⟩ | ⟨k1, k2⟩ <;> (have := r1.2.2.1; have := r1.2.2.2; have := r2.2.2.1; have := r2.2.2.2; omega)
        have t1 : f * xi + cy + g * yi ≤ 9223372034707292161 := by rcases Hfg.out with ⟨k1, k2⟩ | ⟨k1, k2⟩ <;> (have := r1.2.2.1; have := r1.2.2.2; have := r2.2.2.1; have := r2.2.2.2; omega)
        have s0 := r1.1
        have s1 := r1.2.1
        have s2 := r2.1
        have s3 := r2.2.1
        clear hyi r1 r2 hv
        go_wp2
        go_roundw
        case rel => exact ⟨i + 1, _, _, by omega, by omega, by omega, rfl, by go_num, hk.set i _, by have := hS.out; show _ = _; simpa using this, dS.out.set i (by omega), Hst.out, hbr.setCell (p := ⟨gr, i, none⟩) hgw _⟩
        case measure => simp [intOf]; omega
      · have hiY' : ¬ (i : Int) < m := by omega
        have e0 : y[i]?.getD 0 = 0 := by rw [List.getElem?_eq_none (by have := hly.out; omega)]; rfl
        have Hst := Lib.hid (Nt.comb_step (t := f * xi + cy) (by have := hS.out; omega) hv.out (by rw [Hxi.out, e0]; simp))
        have s0 := r1.1
        have s1 := r1.2.1
        clear r1 hv e0
        go_wp2
        go_roundw
        case rel => exact ⟨i + 1, _, _, by omega, by omega, by omega, rfl, by go_num, hk.set i _, by have := hS.out; show _ = _; simpa using this, dS.out.set i (by omega), Hst.out, hbr.setCell (p := ⟨gr, i, none⟩) hgw _⟩
        case measure => simp [intOf]; omega
    · obtain rfl : i = n := by omega
      have hval : Nt.val S = f * Nt.val x + g * Nt.val y := by
        have h1 := hv.out
        rw [Nt.valTo_all S (by have := hS.out; omega), Nt.valTo_all x (by have := hlx.out; omega), Nt.valTo_all y (by have := hly.out; omega)] at h1
        have h5 := Nt.val_lt dS.out
        have h6 := Nt.val_nonneg dS.out
        have h7 := Nt.val_lt Hda.out
        have h8 := H0.out
        have h9 := H1.out
        rw [hS.out] at h5
        rw [hlx.out] at h7
        have hp := Nt.pw_pos i
        have : cy = 0 := by
          rcases Int.lt_trichotomy cy 0 with h | h | h
          · have : cy * Nt.pw i ≤ (-1) * Nt.pw i := Int.mul_le_mul_of_nonneg_right (by omega) (by omega)
            omega
          · exact h
          · have : 1 * Nt.pw i ≤ cy * Nt.pw i := Int.mul_le_mul_of_nonneg_right (by omega) (by omega)
            omega
        rw [this] at h1
        omega
      have hsl := hk.slr_all (n := i) (c := i) hS.out (by omega) (by unfold maxLen; omega)
      have hfr := strip_fresh (w0 := w) hk hS.out (by unfold maxLen; omega) dS.out hgw
      rw [hval] at hfr
      have HF := Lib.hid hfr
      clear hval hfr
      go_wp2_with fail
      refine (cut_any _ _ _ _ _ hsl).mono ?_
      rintro e w1 ⟨rfl, rfl⟩
      go_wp2
      go_ret
      exact ⟨_, _, _, rfl, HF.out, hbr⟩
end Go.Proofs.YtnedhbidmfoegaaGreat
namespace Go.Proofs.YtnedhbidmfoegaaGreat
open Go.RowKit
set_option linter.unusedVariables false
def mx4 (x y z u : Int) : Int := let m1 := if y > x then y else x; let m2 := if z > m1 then z else m1; if u > m2 then u else m2
theorem mx4_lt (x y z u l : Int) : l < mx4 x y z u ↔ (l < x ∨ l < y ∨ l < z ∨ l < u) := by
  unfold mx4
  simp only []
  split <;> split <;> split <;> omega
theorem run_max4 {P : Program} (w : World) (ts : Array TypeId) (t : TypeId) (x y z u : Int) : (Builtin.max_ ts t #[.int .i64 x, .int .i64 y, .int .i64 z, .int .i64 u]).run P w = .ok (.int .i64 (mx4 x y z u)) w := by
  simp [Builtin.max_, Builtin.max2, mx4, List.foldlM]
/-- What cofactors answers. -/
def CofF (x y p0 q0 : Int) (e : Ending) : Prop := ∃ a b c d, e = .returned (.tuple #[.int .i64 a, .int .i64 b, .int .i64 c, .int .i64 d]) ∧ ∃ p q, Nt.Leh x y p0 q0 p q a b c d
set_option maxHeartbeats 2000000 in
theorem cofactors_any (x y p0 q0 K Z ex ey : Int) (w : World) (hK : 0 < K) (hZ : 0 < Z) (hx : x * Z = p0 * K + ex) (hx0 : 0 ≤ ex) (hx1 : ex < K) (hy : y * Z = q0 * K + ey) (hy0 : 0 ≤ ey) (hy1 : ey < K) (y0 : 0 ≤ y) (hxy : y ≤ x) (hp : 0 ≤ p0) (hq : 0 ≤ q0) (hp' : p0 ≤ 4611686018427387904) (hq' : q0 ≤ 4611686018427387904) :
    Calls Tryz.prog 205 #[.int .i64 p0, .int .i64 q0] w fun e w' => CofF x y p0 q0 e ∧ w = w' := by
  have Hx := Lib.hid hx
  have Hy := Lib.hid hy
  have H0 := Lib.hid (Nt.Leh.start y0 hxy hp hq hp' hq')
  have hmax := fun (w : World) (ts : Array TypeId) (t : TypeId) (x y z u : Int) => run_max4 (P := Tryz.prog) w ts t x y z u
  clear hx hy
  go_enter Tryz.func205, Tryz.ntmps205
  go_upto_block 0 with (fail)
  go_cut [4, 5, 6, 7] (fun s4 s5 s6 s7 wx => ∃ a b c d : Int, s4 = .int .i64 a ∧ s5 = .int .i64 b ∧ s6 = .int .i64 c ∧ s7 = .int .i64 d ∧ Hid (∃ p q, Nt.Leh x y p0 q0 p q a b c d) ∧ wx = w)
  case first =>
    go_wp2
    go_loop [0, 1, 4, 5, 6, 7] (fun s0 s1 s4 s5 s6 s7 => ∃ p q a b c d : Int, s0 = .int .i64 p ∧ s1 = .int .i64 q ∧ s4 = .int .i64 a ∧ s5 = .int .i64 b ∧ s6 = .int .i64 c ∧ s7 = .int .i64 d ∧ Hid (Nt.Leh x y p0 q0 p q a b c d)) (fun _ s1 _ _ s6 _ => (intOf s1 + intOf s6).toNat)
    case atStart => exact ⟨p0, q0, 1, 0, 0, 1, rfl, rfl, rfl, rfl, rfl, rfl, H0⟩
    case round =>
      obtain ⟨p, q, a, b, c, d, rfl, rfl, rfl, rfl, rfl, rfl, hL⟩ := hrel
      clear H0
      have k1 := hL.out.p0
      have k2 := hL.out.q0
      have k3 := hL.out.pm
      have k4 := hL.out.qm
      have k5 := hL.out.ba
      have k6 := hL.out.bb
      have k7 := hL.out.bc
      have k8 := hL.out.bd
      have m1 := hL.out.pa
      have m2 := hL.out.pb
      have m3 := hL.out.qc
      have m4 := hL.out.qd
      by_cases z1 : q + c = 0
      · have z1' : (q + c != 0) = false := by rw [z1]; rfl
        clear z1
        go_wp2
        go_meet
        exact ⟨a, b, c, d, rfl, rfl, rfl, rfl, ⟨p, q, hL.out⟩, rfl⟩
      have z1' : (q + c != 0) = true := by rw [bne_iff_ne]; exact z1
      have z1'' : (q + c == 0) = false := by rw [beq_eq_false_iff_ne]; exact z1
      by_cases z2 : q + d = 0
      · have z2' : (q + d != 0) = false := by rw [z2]; rfl
        clear z1 z2
        go_wp2
        go_meet
        exact ⟨a, b, c, d, rfl, rfl, rfl, rfl, ⟨p, q, hL.out⟩, rfl⟩
      have z2' : (q + d != 0) = true := by rw [bne_iff_ne]; exact z2
      have z2'' : (q + d == 0) = false := by rw [beq_eq_false_iff_ne]; exact z2
      have z3 : 1 ≤ q + c := by omega
      have z4 : 1 ≤ q + d := by omega
      have Hz1 := Lib.hid z1
      have Hz2 := Lib.hid z2
      obtain ⟨f, hf⟩ : ∃ f, (p + a) / (q + c) = f := ⟨_, rfl⟩
      have f0 : 0 ≤ f := by rw [← hf]; exact Int.ediv_nonneg m1 m3
      have Hf := Lib.hid hf
      by_cases e2 : (p + b) / (q + d) = f
      · by_cases e3 : 2147483647 < f
        · clear z1 z2
          go_wp2
          go_meet
          exact ⟨a, b, c, d, rfl, rfl, rfl, rfl, ⟨p, q, hL.out⟩, rfl⟩
        · have He2 := Lib.hid e2
          have b1 := Nt.mul_range2 f0 (by omega) k7.1 k7.2
          have b2 := Nt.mul_range2 f0 (by omega) k8.1 k8.2
          have b3 := Nt.fl (n := p + a) (m := q + c) (f := f) (by omega) hf.symm
          have b4 : f * (q + c) = f * q + f * c := Int.mul_add _ _ _
          have b5 : 0 ≤ f * q := Int.mul_nonneg f0 k2
          have b6 : f * q ≤ p + a - f * c := by omega
          have b1a := b1.1
          have b1b := b1.2
          have b2a := b2.1
          have b2b := b2.2
          by_cases hm : 2147483647 < mx4 (a - f * c) (-(a - f * c)) (b - f * d) (-(b - f * d))
          · clear z1 z2 b4 b3
            go_wp2
            go_meet
            exact ⟨a, b, c, d, rfl, rfl, rfl, rfl, ⟨p, q, hL.out⟩, rfl⟩
          · have hm' := hm
            rw [mx4_lt] at hm'
            have be : -2147483647 ≤ a - f * c ∧ a - f * c ≤ 2147483647 := by omega
            have bg : -2147483647 ≤ b - f * d ∧ b - f * d ≤ 2147483647 := by omega
            have hN := hL.out.step hK hZ Hx.out hx0 hx1 Hy.out hy0 hy1 Hz1.out Hz2.out Hf.out.symm He2.out.symm be bg
            have HN := Lib.hid hN.1
            have HM := Lib.hid hN.2
            clear z1 z2 b4 b3 hm' hN
            go_wp2
            go_round
            case rel => exact ⟨q, p - f * q, c, d, _, _, rfl, rfl, rfl, rfl, rfl, rfl, HN⟩
            case measure => simp [intOf]; have := HM.out; omega
      · have e2' : (f != (p + b) / (q + d)) = true := by rw [bne_iff_ne]; exact fun h => e2 h.symm
        clear z1 z2
        go_wp2
        go_meet
        exact ⟨a, b, c, d, rfl, rfl, rfl, rfl, ⟨p, q, hL.out⟩, rfl⟩
  case rest =>
    obtain ⟨a, b, c, d, rfl, rfl, rfl, rfl, h, rfl⟩ := hcut
    go_wp2
    exact bodyPost_ret (v := .tuple #[.int .i64 a, .int .i64 b, .int .i64 c, .int .i64 d]) (by simp [results, Tryz.results205, go_sem]) rfl ⟨⟨a, b, c, d, rfl, h.out⟩, rfl⟩
end Go.Proofs.YtnedhbidmfoegaaGreat
namespace Go.Proofs.YtnedhbidmfoegaaGreat
open Go.RowKit
set_option linter.unusedVariables false
namespace Nt
theorem or_add {x y : Int} {s : Nat} (h : s < 64) (h0 : 0 ≤ x) (hm : x % 2 ^ s = 0) (h1 : x < 18446744073709551616) (k0 : 0 ≤ y) (k1 : y < 2 ^ s) : bits .or .u64 x y = x + y := by
  have hp : (2 : Int) ^ s ≤ 9223372036854775808 := by
    have h1 : (2 : Nat) ^ s ≤ 2 ^ 63 := Nat.pow_le_pow_right (by omega) (by omega)
    have h2 : ((2 ^ s : Nat) : Int) ≤ ((2 ^ 63 : Nat) : Int) := Int.ofNat_le.2 h1
    simpa using h2
  exact bits_join .u64 64 (by decide) (fun n h0 h1 => by rw [IntKind.wrap_u64]; omega) s _ _ h0 hm (by omega) k0 k1 (by omega)
/-- What leading answers. -/
def LeadF (a : List Int) (k s : Nat) (p : Int) : Prop := 0 ≤ p ∧ p < 4611686018427387904 ∧ ∃ ex, val a * 2 ^ s = p * (4 * pw (k + 1)) + ex ∧ 0 ≤ ex ∧ ex < 4 * pw (k + 1)
theorem lead_top {d1 d2 d3 : Int} {s : Nat} (hs : s < 32) (p1 : 0 ≤ d1) (p2 : 0 ≤ d2 ∧ d2 < 4294967296) (p3 : 0 ≤ d3 ∧ d3 < 4294967296) (ht : (d1 + 1) * 2 ^ s ≤ 4294967296) :
    0 ≤ (d1 * 4294967296 + d2) * 2 ^ s ∧ (d1 * 4294967296 + d2) * 2 ^ s + 2 ^ s ≤ 18446744073709551616 ∧ 0 ≤ d3 * 2 ^ s ∧ d3 * 2 ^ s < 9223372036854775808 ∧ 0 ≤ d3 * 2 ^ s / 4294967296 ∧ d3 * 2 ^ s / 4294967296 < 2 ^ s ∧ bits .or .u64 ((d1 * 4294967296 + d2) * 2 ^ s) (d3 * 2 ^ s / 4294967296) = (d1 * 4294967296 + d2) * 2 ^ s + d3 * 2 ^ s / 4294967296 := by
  have hp := p2_pos s
  have h3 := hi_lift hs p3.1 p3.2
  have a0 : 0 ≤ (d1 * 4294967296 + d2) * 2 ^ s := Int.mul_nonneg (by omega) (by omega)
  have a1 : (d1 * 4294967296 + d2 + 1) * 2 ^ s ≤ ((d1 + 1) * 4294967296) * 2 ^ s := Int.mul_le_mul_of_nonneg_right (by omega) (by omega)
  have a2 : ((d1 + 1) * 4294967296) * 2 ^ s = ((d1 + 1) * 2 ^ s) * 4294967296 := by rw [Int.mul_assoc, Int.mul_comm 4294967296, ← Int.mul_assoc]
  have a3 : (d1 * 4294967296 + d2 + 1) * 2 ^ s = (d1 * 4294967296 + d2) * 2 ^ s + 2 ^ s := by rw [Int.add_mul _ 1, Int.one_mul]
  exact ⟨a0, by omega, h3.1, h3.2.1, h3.2.2.1, h3.2.2.2, or_add (by omega) a0 (Int.mul_emod_left _ _) (by omega) h3.2.2.1 h3.2.2.2⟩
theorem lead_val {a : List Int} {k s : Nat} {d1 d2 d3 t : Int} (hs : s < 32) (da : Dig a) (hl : a.length ≤ k + 3) (e1 : d1 = a[k + 2]?.getD 0) (e2 : d2 = a[k + 1]?.getD 0) (e3 : d3 = a[k]?.getD 0) (ht : (d1 + 1) * 2 ^ s ≤ 4294967296) (hT : t = (d1 * 4294967296 + d2) * 2 ^ s + d3 * 2 ^ s / 4294967296) : LeadF a k s (t / 4) := by
  have p1 := da.at (k + 2)
  have p2 := da.at (k + 1)
  have p3 := da.at k
  rw [← e1] at p1
  rw [← e2] at p2
  rw [← e3] at p3
  obtain ⟨q0, q1, q2, q3, q4, q5, _⟩ := lead_top (d3 := d3) hs p1.1 p2 p3 ht
  have hp := p2_pos s
  have hk := pw_pos k
  have hv : val a = valTo a k + pw k * (d3 + 4294967296 * d2 + 4294967296 * 4294967296 * d1) := by
    rw [← valTo_all a hl, valTo_succ, valTo_succ, valTo_succ, ← e1, ← e2, ← e3]
    simp only [pw]
    grind
  have hm := mod_p2 (x := d3) hs
  have hd := dig_lift (x := d3) (lo := 2 ^ s - 1) hs (by omega) (by omega)
  have v0 := valTo_nonneg da k
  have v1 := valTo_lt da k
  refine ⟨by omega, by omega, val a * 2 ^ s - t / 4 * (4 * pw (k + 1)), by omega, ?_⟩
  have e4 : val a * 2 ^ s = t * pw (k + 1) + (valTo a k * 2 ^ s + pw k * (d3 * 2 ^ s % 4294967296)) := by
    have e := Int.mul_ediv_add_emod (d3 * 2 ^ s) 4294967296
    rw [hT, hv]
    simp only [pw]
    generalize d3 * 2 ^ s / 4294967296 = q at *
    generalize d3 * 2 ^ s % 4294967296 = r at *
    grind
  have e5 : t * pw (k + 1) = t / 4 * (4 * pw (k + 1)) + (t % 4) * pw (k + 1) := by
    have e := Int.mul_ediv_add_emod t 4
    generalize t / 4 = q at *
    generalize t % 4 = r at *
    rw [← e]; grind
  have r0 : 0 ≤ valTo a k * 2 ^ s := Int.mul_nonneg v0 (by omega)
  have r1 : valTo a k * 2 ^ s ≤ (pw k - 1) * 2 ^ s := Int.mul_le_mul_of_nonneg_right (by omega) (by omega)
  rw [Int.sub_mul, Int.one_mul] at r1
  have r2 : 0 ≤ pw k * (d3 * 2 ^ s % 4294967296) := Int.mul_nonneg (by omega) (by omega)
  have r3 : pw k * (d3 * 2 ^ s % 4294967296) ≤ pw k * (4294967296 - 2 ^ s) := Int.mul_le_mul_of_nonneg_left (by omega) (by omega)
  rw [Int.mul_sub] at r3
  have r4 : pw (k + 1) = pw k * 4294967296 := by rw [pw, Int.mul_comm]
  have r5 : 0 ≤ (t % 4) * pw (k + 1) := Int.mul_nonneg (by omega) (by have := pw_pos (k + 1); omega)
  have r6 : (t % 4) * pw (k + 1) ≤ 3 * pw (k + 1) := Int.mul_le_mul_of_nonneg_right (by omega) (by have := pw_pos (k + 1); omega)
  constructor <;> omega
end Nt
theorem at_any (i : Nat) (p : Addr) (A : Option Addr) (n c : Nat) (a : List Int) (w : World) (hp : w.cell? p = some (.slice A n c)) (ha : SlR .u32 w A n c a) (da : Nt.Dig a) (hi : i ≤ 2000000000) :
    Calls Tryz.prog 214 #[.int .i64 i, .pointer (some p)] w fun e w' => e = .returned (.int .u64 (a[i]?.getD 0)) ∧ w = w' := by
  have hl := ha.1
  have hm := ha.2.2.1
  have hc := ha.2.1
  unfold maxLen at hm
  have hx := da.at i
  by_cases h : i < n
  · obtain ⟨b, o, rfl, hb, hcell⟩ := ha.pos h
    clear hl
    go_enter Tryz.func214, Tryz.ntmps214
    go_wp2
    go_ret
    exact ⟨rfl, rfl⟩
  · have e : a[i]?.getD 0 = 0 := by rw [List.getElem?_eq_none (by omega)]; rfl
    have E := Lib.hid e
    clear e hl
    go_enter Tryz.func214, Tryz.ntmps214
    go_wp2
    go_ret
    exact ⟨by rw [E.out]; rfl, rfl⟩
set_option maxHeartbeats 1000000 in
theorem leading_any (A : Option Addr) (n c k s : Nat) (a : List Int) (w : World) (ha : SlR .u32 w A n c a) (da : Nt.Dig a) (hn : n ≤ k + 3) (hk : k ≤ 1000000000) (hs : s < 32) (ht : (a[k + 2]?.getD 0 + 1) * 2 ^ s ≤ 4294967296) :
    Calls Tryz.prog 206 #[.slice A n c, .int .i64 (k + 3), .int .u64 s] w fun e w' => (∃ p, e = .returned (.int .i64 p) ∧ Nt.LeadF a k s p) ∧ Below w.heap.size w w' := by
  have p1 := da.at (k + 2)
  have p2 := da.at (k + 1)
  have p3 := da.at k
  obtain ⟨d1, e1⟩ : ∃ d, d = a[k + 2]?.getD 0 := ⟨_, rfl⟩
  obtain ⟨d2, e2⟩ : ∃ d, d = a[k + 1]?.getD 0 := ⟨_, rfl⟩
  obtain ⟨d3, e3⟩ : ∃ d, d = a[k]?.getD 0 := ⟨_, rfl⟩
  have E1 := Lib.hid e1
  have E2 := Lib.hid e2
  have E3 := Lib.hid e3
  rw [← e1] at p1 ht
  rw [← e2] at p2
  rw [← e3] at p3
  have hv := Nt.lead_val (t := (d1 * 4294967296 + d2) * 2 ^ s + d3 * 2 ^ s / 4294967296) hs da (by rw [ha.1]; exact hn) e1 e2 e3 ht rfl
  have HV := Lib.hid hv
  obtain ⟨q0, q1, q2, q3, q4, q5, q6⟩ := Nt.lead_top (d3 := d3) hs p1.1 p2 p3 ht
  have hp := Nt.p2_pos s
  have or1 := Nt.or_top p1.1 p1.2 p2.1 p2.2
  have hp2 := Nt.p2_le hs
  have hbox : (w.alloc (.cells #[.slice A n c] 22)).cell? ⟨w.heap.size, 0, none⟩ = some (.slice A n c) := by simp [World.cell?_alloc_new]
  have Hbox := Lib.hid hbox
  clear e1 e2 e3 hv ht hbox
  go_enter Tryz.func206, Tryz.ntmps206
  go_wp2_with fail
  rw [show ((k : Int) + 3 - 1) = ((k + 2 : Nat) : Int) by omega]
  refine (at_any (k + 2) _ A n c a _ Hbox.out (ha.alloc _) da (by omega)).mono ?_
  rintro e w1 ⟨rfl, rfl⟩
  rw [← E1.out]
  go_wp2_with fail
  rw [show ((k : Int) + 3 - 2) = ((k + 1 : Nat) : Int) by omega]
  refine (at_any (k + 1) _ A n c a _ Hbox.out (ha.alloc _) da (by omega)).mono ?_
  rintro e w1 ⟨rfl, rfl⟩
  rw [← E2.out]
  go_wp2_with fail
  refine (at_any k _ A n c a _ Hbox.out (ha.alloc _) da (by omega)).mono ?_
  rintro e w1 ⟨rfl, rfl⟩
  rw [← E3.out]
  go_wp2
  go_ret
  exact ⟨⟨_, rfl, HV.out⟩, (Below.refl _ _).alloc (Nat.le_refl _) _⟩
end Go.Proofs.YtnedhbidmfoegaaGreat
namespace Go.Proofs.YtnedhbidmfoegaaGreat
open Go.RowKit
set_option linter.unusedVariables false
theorem NatF.mono {w0 w1 w : World} {A : Option Addr} {n c v : Nat} (h : NatF w1 w A n c v) (hw : w0.heap.size ≤ w1.heap.size) : NatF w0 w A n c v :=
  ⟨h.1, h.2.1, fun hp => by obtain ⟨a, e, k, t⟩ := h.2.2 hp; exact ⟨a, e, by omega, t⟩⟩
namespace Nt
theorem top_le {x y : List Int} {k : Nat} (dx : Dig x) (dy : Dig y) (hx : x.length ≤ k + 1) (hy : y.length ≤ k + 1) (h : val y ≤ val x) : y[k]?.getD 0 ≤ x[k]?.getD 0 := by
  have ex : val x = valTo x k + pw k * x[k]?.getD 0 := by rw [← valTo_all x hx, valTo_succ]
  have ey : val y = valTo y k + pw k * y[k]?.getD 0 := by rw [← valTo_all y hy, valTo_succ]
  have a1 := valTo_lt dx k
  have a2 := valTo_nonneg dy k
  have hp := pw_pos k
  have : pw k * y[k]?.getD 0 < pw k * (x[k]?.getD 0 + 1) := by rw [Int.mul_add]; omega
  have := Int.lt_of_mul_lt_mul_left this (by omega)
  omega
theorem digits_len_mono {x y : Nat} (h : y ≤ x) : (digits y).length ≤ (digits x).length := by
  rcases Nat.lt_or_ge (digits x).length (digits y).length with h' | h'
  · have := len_lt (digits_dig x) (digits_dig y) (digits_norm y) h'
    rw [digits_val, digits_val] at this
    omega
  · exact h'
theorem gcd_nat {a b x y : Int} (h : Int.gcd a b = Int.gcd x y) (a0 : 0 ≤ a) (b0 : 0 ≤ b) (x0 : 0 ≤ x) (y0 : 0 ≤ y) : Nat.gcd a.toNat b.toNat = Nat.gcd x.toNat y.toNat := by
  unfold Int.gcd at h
  rw [show a.natAbs = a.toNat by omega, show b.natAbs = b.toNat by omega, show x.natAbs = x.toNat by omega, show y.natAbs = y.toNat by omega] at h
  exact h
/-- The shift that the highest digit asks for. -/
theorem lz_int {y : Int} (h0 : 0 < y) (h1 : y < 4294967296) : ∃ z : Nat, 32 - (Lib.bitLen y.toNat : Int) = z ∧ z < 32 ∧ (y + 1) * 2 ^ z ≤ 4294967296 := by
  obtain ⟨z, hz1, hz2, hz3, hz4⟩ := lz_spec (x := y.toNat) (by omega) (by omega)
  refine ⟨z, hz1, hz2, ?_⟩
  have e : ((y.toNat * 2 ^ z : Nat) : Int) = y * 2 ^ z := by rw [Int.natCast_mul, Int.natCast_pow]; congr 1; omega
  have hs := Nt.p2_split hz2
  have p0 := Nt.p2_pos z
  have h4 : y * 2 ^ z < 2 ^ (32 - z) * 2 ^ z := by rw [Int.mul_comm (2 ^ (32 - z)), hs]; omega
  have h5 := Int.lt_of_mul_lt_mul_right h4 (by omega)
  have h6 : (y + 1) * 2 ^ z ≤ 2 ^ (32 - z) * 2 ^ z := Int.mul_le_mul_of_nonneg_right (by omega) (by omega)
  rw [Int.mul_comm (2 ^ (32 - z)), hs] at h6
  exact h6
end Nt
/-- What shorten answers: two later members of the sequence of remainders. -/
def ShF (w0 w w' : World) (e : Ending) (X Y : Nat) : Prop := ∃ A1 n1 c1 A2 n2 c2 X' Y', e = .returned (.tuple #[.slice A1 n1 c1, .slice A2 n2 c2]) ∧ NatF w0 w' A1 n1 c1 X' ∧ NatF w0 w' A2 n2 c2 Y' ∧ Y' ≤ X' ∧ Y' < Y ∧ X' ≤ X ∧ Nat.gcd X' Y' = Nat.gcd X Y ∧ Below w.heap.size w w'
set_option maxHeartbeats 1000000 in
theorem shorten_any (w0 w : World) (A B : Option Addr) (n c m d X Y : Nat) (ha : NatF w0 w A n c X) (hb : NatF w0 w B m d Y) (hw : w0.heap.size ≤ w.heap.size) (hn : n ≤ 1000000000) (hm : 2 < m) (hle : Y ≤ X) :
    Calls Tryz.prog 192 #[.slice A n c, .slice B m d] w fun e w' => ShF w0 w w' e X Y := by
  have hmn : m ≤ n := by rw [ha.1, hb.1]; exact Nt.digits_len_mono hle
  obtain ⟨k, hk⟩ : ∃ k, n = k + 3 := ⟨n - 3, by omega⟩
  subst hk
  have dx := Nt.digits_dig X
  have dy := Nt.digits_dig Y
  have ex := Nt.digits_val X
  have ey := Nt.digits_val Y
  have hy0 : 0 < Y := by
    rcases Nat.eq_zero_or_pos Y with h | h
    · have := hb.1; rw [h, Nt.digits_zero] at this; simp at this; omega
    · exact h
  have tx := Nt.norm_last (k := k + 2) (Nt.digits_norm X) ha.1.symm
  have bx := dx.at (k + 2)
  obtain ⟨z, hz1, hz2, hz3⟩ := Nt.lz_int (y := (Nt.digits X)[k + 2]?.getD 0) (by omega) (by omega)
  have hty := Nt.top_le (k := k + 2) dx dy (by rw [← ha.1]; exact Nat.le_refl _) (by rw [← hb.1]; exact hmn) (by rw [ex, ey]; omega)
  have hz4 : ((Nt.digits Y)[k + 2]?.getD 0 + 1) * 2 ^ z ≤ 4294967296 := by
    have : ((Nt.digits Y)[k + 2]?.getD 0 + 1) * 2 ^ z ≤ ((Nt.digits X)[k + 2]?.getD 0 + 1) * 2 ^ z := Int.mul_le_mul_of_nonneg_right (by omega) (by have := Nt.p2_pos z; omega)
    omega
  obtain ⟨b1, o1, he1, _, hc1⟩ := ha.2.1.pos (i := k + 2) (by omega)
  subst he1
  obtain ⟨t, ht⟩ : ∃ t, t = (Nt.digits X)[k + 2]?.getD 0 := ⟨_, rfl⟩
  have Ha := Lib.hid ha
  have Hb := Lib.hid hb
  have Hz1 : Hid (32 - (Lib.bitLen t.toNat : Int) = z) := by rw [ht]; exact hz1
  have Hz3 := Lib.hid hz3
  have Hz4 := Lib.hid hz4
  have Ex := Lib.hid ex
  have Ey := Lib.hid ey
  rw [← ht] at hc1 bx tx
  clear ha hb ex ey hz1 hz3 hz4 ht hty
  go_enter Tryz.func192, Tryz.ntmps192
  go_wp2_with fail
  refine (LeadingZeros32_any t _ bx.1 bx.2).mono ?_
  rintro e w1 ⟨rfl, rfl⟩
  rw [Hz1.out]
  have hlz : (0 : Int) ≤ (z : Int) ∧ (z : Int) < 32 := by omega
  go_wp2_with fail
  refine (leading_any _ _ _ k z _ _ Ha.out.2.1 dx (Nat.le_refl _) (by omega) hz2 Hz3.out).mono ?_
  rintro e w2 ⟨⟨p, rfl, hp⟩, hb2⟩
  have Hp := Lib.hid hp
  clear hp
  go_wp2_with fail
  refine (leading_any _ _ _ k z _ _ (Hb.out.2.1.below hb2) dy hmn (by omega) hz2 Hz4.out).mono ?_
  rintro e w3 ⟨⟨q, rfl, hq⟩, hb3⟩
  have Hq := Lib.hid hq
  have HB3 : Hid (Below w1.heap.size w1 w3) := hb2.trans (hb3.mono hb2.size)
  clear hq hb2 hb3
  obtain ⟨p0, p1, ex, hex, ex0, ex1⟩ := Hp.out
  obtain ⟨q0, q1, ey, hey, ey0, ey1⟩ := Hq.out
  rw [Ex.out] at hex
  rw [Ey.out] at hey
  have HC := cofactors_any X Y p q (4 * Nt.pw (k + 1)) (2 ^ z) ex ey w3 (by have := Nt.pw_pos (k + 1); omega) (Nt.p2_pos z) hex ex0 ex1 hey ey0 ey1 (by omega) (by omega) p0 q0 (by omega) (by omega)
  clear hex hey ex0 ex1 ey0 ey1
  go_wp2_with fail
  refine HC.mono ?_
  rintro e w4 ⟨⟨a, b, c', d', rfl, hL⟩, rfl⟩
  have HL := Lib.hid hL
  clear hL HC
  by_cases hb0 : b = 0
  · subst hb0
    go_wp2_with fail
    refine (divide_any _ _ _ _ _ _ _ _ _ (Ha.out.2.1.below HB3.out) (Hb.out.2.1.below HB3.out) dx dy (Nt.digits_norm X) (Nt.digits_norm Y) (by omega) (by omega)).mono ?_
    rintro e w5 ⟨A1, n1, c1, A2, n2, c2, rfl, f1, f2, hbl⟩
    have F2 := Lib.hid f2
    have Hbl := Lib.hid hbl
    clear f1 f2 hbl
    go_wp2
    go_ret2
    have f2 := F2.out
    rw [Ex.out, Ey.out, ← Int.natCast_emod, Int.toNat_natCast] at f2
    have hs := HB3.out.size
    have hr := Nat.mod_lt X hy0
    refine ⟨B, m, d, A2, n2, c2, Y, X % Y, rfl, (Hb.out.below HB3.out).below Hbl.out, f2.mono (by omega), by omega, hr, hle, ?_, HB3.out.trans (Hbl.out.mono hs)⟩
    rw [Nat.gcd_comm X Y, Nat.gcd_rec Y X, Nat.gcd_comm]
  · have hbb : (b == 0) = false := by rw [beq_eq_false_iff_ne]; exact hb0
    obtain ⟨P, Q, l⟩ := HL.out
    have s1 : (0 ≤ a ∧ b ≤ 0) ∨ (a ≤ 0 ∧ 0 ≤ b) := by rcases l.sign with s | s <;> omega
    have s2 : (0 ≤ c' ∧ d' ≤ 0) ∨ (c' ≤ 0 ∧ 0 ≤ d') := by rcases l.sign with s | s <;> omega
    have hy1 := l.y0
    have hyx := l.yx
    have hxx := l.xx
    have hlt : c' * X + d' * Y < Y := by rcases l.less with h | h; exact absurd h.2.1 hb0; exact h
    have hg := l.gcd
    have H := Lib.hid hy1
    have H2 := Lib.hid hyx
    have H3 := Lib.hid hxx
    have H4 := Lib.hid hlt
    have H5 := Lib.hid hg
    have la := l.ba
    have lb := l.bb
    have lc := l.bc
    have ld := l.bd
    clear l hy1 hyx hxx hlt hg hb0 HL Hp Hq
    go_wp2_with fail
    refine (combine_any _ _ _ _ _ _ _ _ a b _ (Ha.out.2.1.below HB3.out) (Hb.out.2.1.below HB3.out) dx dy (by omega) hmn la.1 la.2 lb.1 lb.2 s1 (by rw [Ex.out, Ey.out]; have := H.out; have := H2.out; omega) (by rw [Ex.out, Ey.out]; exact H3.out)).mono ?_
    rintro e w5 ⟨A1, n1, c1, rfl, f1, hbl1⟩
    rw [Ex.out, Ey.out] at f1
    have F1 := Lib.hid f1
    have HB5 : Hid (Below w1.heap.size w1 w5) := HB3.out.trans (hbl1.mono HB3.out.size)
    clear f1
    go_wp2_with fail
    refine (combine_any _ _ _ _ _ _ _ _ c' d' _ (Ha.out.2.1.below HB5.out) (Hb.out.2.1.below HB5.out) dx dy (by omega) hmn lc.1 lc.2 ld.1 ld.2 s2 (by rw [Ex.out, Ey.out]; exact H.out) (by rw [Ex.out, Ey.out]; have := H2.out; have := H3.out; omega)).mono ?_
    rintro e w6 ⟨A2, n2, c2, rfl, f2, hbl2⟩
    rw [Ex.out, Ey.out] at f2
    have F2 := Lib.hid f2
    have HB6 := Lib.hid hbl2
    clear f2 hbl1 hbl2
    go_wp2
    go_ret2
    have h1 := H.out
    have h2 := H2.out
    have h3 := H3.out
    have h4 := H4.out
    have hs := HB3.out.size
    have hs5 := HB5.out.size
    refine ⟨A1, n1, c1, A2, n2, c2, (a * X + b * Y).toNat, (c' * X + d' * Y).toNat, rfl, (F1.out.mono (by omega)).below HB6.out, F2.out.mono (by omega), by omega, by omega, by omega, ?_, HB5.out.trans (HB6.out.mono hs5)⟩
    have := Nt.gcd_nat H5.out (by omega) (by omega) (by omega) (by omega)
    simpa using this
end Go.Proofs.YtnedhbidmfoegaaGreat
namespace Go.Proofs.YtnedhbidmfoegaaGreat
open Go.RowKit
set_option linter.unusedVariables false
/-- The number that a slice of digits reads as. -/
def sval (w : World) : Value → Nat
  | .slice (some a) n _ => (Nt.val ((List.range n).map fun i => match w.cell? ⟨a.block, a.off + i, none⟩ with | some (.int _ x) => x | _ => 0)).toNat
  | _ => 0
theorem sval_slr {w : World} {A : Option Addr} {n c : Nat} {l : List Int} (h : SlR .u32 w A n c l) : sval w (.slice A n c) = (Nt.val l).toNat := by
  rcases Nat.eq_zero_or_pos n with h0 | h0
  · subst h0
    have : l = [] := List.eq_nil_of_length_eq_zero h.1
    subst this
    rcases A with _ | a <;> simp [sval, Nt.val]
  · obtain ⟨b, o, rfl, hb, hc⟩ := h.2.2.2 h0
    show (Nt.val ((List.range n).map fun i => match w.cell? ⟨b, o + i, none⟩ with | some (.int _ x) => x | _ => 0)).toNat = _
    congr 2
    apply List.ext_getElem
    · simp [h.1]
    · intro i h1 h2
      simp at h1
      simp only [List.getElem_map, List.getElem_range]
      rw [hc i h1]
      simp [h2]
namespace Nt
theorem two_digits {p : Nat} (h : p < 18446744073709551616) : strip [((p % 4294967296 : Nat) : Int), ((p / 4294967296 : Nat) : Int)] = digits p := by
  have hd : Dig [((p % 4294967296 : Nat) : Int), ((p / 4294967296 : Nat) : Int)] := Dig.cons (by omega) (Dig.cons (by omega) Dig.nil)
  rw [strip_eq hd]
  congr 1
  simp [val]; omega
theorem digits_two {v : Nat} (h : (digits v).length ≤ 2) : v < 18446744073709551616 := by
  have h1 := val_lt (digits_dig v)
  have h2 := pw_mono h
  rw [digits_val] at h1
  simp [pw] at h2
  omega
end Nt
set_option maxHeartbeats 2000000 in
theorem Gcd_any (A B : Option Addr) (n c m d : Nat) (a b : List Int) (w : World) (ha : SlR .u32 w A n c a) (hb : SlR .u32 w B m d b) (da : Nt.Dig a) (db : Nt.Dig b) (hn : n ≤ 1000000000) (hm : m ≤ 1000000000) :
    Calls Tryz.prog 175 #[.slice A n c, .slice B m d] w fun e w' => ∃ A' n' c', e = .returned (.slice A' n' c') ∧ NatF w w' A' n' c' (Nat.gcd (Nt.val a).toNat (Nt.val b).toNat) ∧ Below w.heap.size w w' := by
  have l1 : Hid ((Nt.digits (Nt.val a).toNat).length ≤ n) := by rw [← Nt.strip_eq da, ← ha.1]; exact Nt.strip_length_le a
  have l2 : Hid ((Nt.digits (Nt.val b).toNat).length ≤ m) := by rw [← Nt.strip_eq db, ← hb.1]; exact Nt.strip_length_le b
  go_enter Tryz.func175, Tryz.ntmps175
  go_wp2_with fail
  refine (Trim_any _ _ _ _ _ ha da hn).mono ?_
  rintro e w1 ⟨A1, n1, c1, rfl, f1, b1⟩
  go_wp2_with fail
  refine (Trim_any _ _ _ _ _ (hb.below b1) db hm).mono ?_
  rintro e w2 ⟨A2, n2, c2, rfl, f2, b2⟩
  have g1 : NatF w w2 A1 n1 c1 (Nt.val a).toNat := f1.below b2
  have g2 : NatF w w2 A2 n2 c2 (Nt.val b).toNat := f2.mono b1.size
  have hB : Below w.heap.size w w2 := b1.trans (b2.mono b1.size)
  have hL1 : n1 ≤ 1000000000 := by have := f1.1; have := l1.out; omega
  have hL2 : n2 ≤ 1000000000 := by have := f2.1; have := l2.out; omega
  clear f1 f2 b1 b2 ha hb l1 l2 da db
  obtain ⟨X, hX⟩ : ∃ X, X = (Nt.val a).toNat := ⟨_, rfl⟩
  obtain ⟨Y, hY⟩ : ∃ Y, Y = (Nt.val b).toNat := ⟨_, rfl⟩
  obtain ⟨G, hG⟩ : ∃ G, G = Nat.gcd (Nt.val a).toNat (Nt.val b).toNat := ⟨_, rfl⟩
  have HG := Lib.hid hG
  have HG2 : Hid (Nat.gcd X Y = G) := by show _ = _; rw [hX, hY, hG]
  rw [← hX] at g1
  rw [← hY] at g2
  have G1 := Lib.hid g1
  have G2 := Lib.hid g2
  have HB := Lib.hid hB
  clear hX hY hG g1 g2 hB
  go_wp2_with fail
  refine (Compare_any _ _ _ _ _ _ _ _ _ G1.out.2.1 G2.out.2.1 (Nt.digits_dig X) (Nt.digits_dig Y)).mono ?_
  rintro e w3 ⟨rfl, q, rfl⟩
  rw [Nt.digits_val, Nt.digits_val]
  have K1 : Hid (NatF w (w2.drewN q) A1 n1 c1 X) := G1.out
  have K2 : Hid (NatF w (w2.drewN q) A2 n2 c2 Y) := G2.out
  have KB : Hid (Below w.heap.size w (w2.drewN q)) := ⟨HB.out.os, HB.out.tape, HB.out.output, HB.out.size, HB.out.block⟩
  generalize w2.drewN q = w3 at *
  clear G1 G2 HB
  go_upto_if 18 with (fail)
  go_cut [5, 6] (fun s5 s6 wx => ∃ A1 n1 c1 A2 n2 c2 X Y, s5 = .slice A1 n1 c1 ∧ s6 = .slice A2 n2 c2 ∧ Hid (NatF w wx A1 n1 c1 X) ∧ Hid (NatF w wx A2 n2 c2 Y) ∧ Hid (Below w.heap.size w wx) ∧ n1 ≤ 1000000000 ∧ n2 ≤ 1000000000 ∧ Hid (Y ≤ X) ∧ Hid (Nat.gcd X Y = G))
  case first =>
    by_cases hlt : X < Y
    · have hc : Nt.cmpS X Y = -1 := by unfold Nt.cmpS; rw [if_pos (by omega)]
      have Hle : Hid (X ≤ Y) := by show _ ≤ _; omega
      clear hlt
      go_wp2_with fail
      go_meet
      exact ⟨A2, n2, c2, A1, n1, c1, Y, X, rfl, rfl, K2, K1, KB, hL2, hL1, Hle, by show _ = _; rw [Nat.gcd_comm]; exact HG2.out⟩
    · have hc : 0 ≤ Nt.cmpS X Y := by unfold Nt.cmpS; rw [if_neg (by omega)]; split <;> omega
      have Hle : Hid (Y ≤ X) := by show _ ≤ _; omega
      clear hlt
      go_wp2_with fail
      go_meet
      exact ⟨A1, n1, c1, A2, n2, c2, X, Y, rfl, rfl, K1, K2, KB, hL1, hL2, Hle, HG2⟩
  case rest =>
    clear K1 K2 KB HG2 hL1 hL2
    obtain ⟨A1, n1, c1, A2, n2, c2, X, Y, rfl, rfl, K1, K2, KB, hL1, hL2, Hle, HG2⟩ := hcut
    go_wp2
    go_loopw [5, 6] (fun s5 s6 wx => ∃ A1 n1 c1 A2 n2 c2 X Y, s5 = .slice A1 n1 c1 ∧ s6 = .slice A2 n2 c2 ∧ Hid (NatF w wx A1 n1 c1 X) ∧ Hid (NatF w wx A2 n2 c2 Y) ∧ Hid (Below w.heap.size w wx) ∧ n1 ≤ 1000000000 ∧ n2 ≤ 1000000000 ∧ Hid (Y ≤ X) ∧ Hid (Nat.gcd X Y = G)) (fun _ s6 wx => sval wx s6)
    case atStart => exact ⟨A1, n1, c1, A2, n2, c2, X, Y, rfl, rfl, K1, K2, KB, hL1, hL2, Hle, HG2⟩
    case round =>
      clear K1 K2 KB Hle HG2 hL1 hL2
      obtain ⟨A1, n1, c1, A2, n2, c2, X, Y, rfl, rfl, K1, K2, KB, hL1, hL2, Hle, HG2⟩ := hrel
      by_cases h2 : 2 < n2
      · have h2' : (2 : Int) < n2 := by omega
        go_wp2_with fail
        refine (shorten_any w _ _ _ _ _ _ _ X Y K1.out K2.out KB.out.size hL1 h2 Hle.out).mono ?_
        rintro e w5 ⟨A3, n3, c3, A4, n4, c4, X', Y', rfl, k1, k2, k3, k4, k5, k6, k7⟩
        have E1 := Lib.hid k1
        have E2 := Lib.hid k2
        have E3 := Lib.hid k3
        have E4 := Lib.hid k4
        have E6 := Lib.hid k6
        have E7 := Lib.hid k7
        have j1 : n3 ≤ 1000000000 := by have e1 := k1.1; have e2 := K1.out.1; have := Nt.digits_len_mono k5; omega
        have j2 : n4 ≤ 1000000000 := by have e1 := k2.1; have e2 := K2.out.1; have := Nt.digits_len_mono (Nat.le_of_lt k4); omega
        have Hms : Hid (sval w5 (.slice A4 n4 c4) < sval wr (.slice A2 n2 c2)) := by
          show _ < _
          rw [sval_slr k2.2.1, sval_slr K2.out.2.1, Nt.digits_val, Nt.digits_val]
          omega
        clear k1 k2 k3 k4 k5 k6 k7
        go_wp2
        go_roundw
        case rel => exact ⟨A3, n3, c3, A4, n4, c4, X', Y', rfl, rfl, E1, E2, KB.out.trans (E7.out.mono KB.out.size), j1, j2, E3, by show _ = _; rw [E6.out]; exact HG2.out⟩
        case measure => exact Hms.out
      · have h2' : ¬ (2 : Int) < n2 := by omega
        rcases Nat.eq_zero_or_pos n2 with h0 | h0
        · subst h0
          have hY : Hid (X = G) := by
            have e1 := K2.out.1
            have : Y = 0 := by
              rcases Nat.eq_zero_or_pos Y with h | h
              · exact h
              · have := Nt.digits_length_pos h; omega
            have e2 := HG2.out
            rw [this, Nat.gcd_zero_right] at e2
            exact e2
          go_wp2
          go_ret
          refine ⟨A1, n1, c1, rfl, ?_, KB.out⟩
          rw [← HG.out, ← hY.out]
          exact K1.out
        · have h0' : ((n2 : Int) == 0) = false := by rw [beq_eq_false_iff_ne]; omega
          go_wp2_with fail
          refine (divide_any _ _ _ _ _ _ _ _ _ K1.out.2.1 K2.out.2.1 (Nt.digits_dig X) (Nt.digits_dig Y) (Nt.digits_norm X) (Nt.digits_norm Y) hL1 h0).mono ?_
          rintro e w5 ⟨A3, n3, c3, A4, n4, c4, rfl, f1, f2, hbl⟩
          have hYp : 0 < Y := by
            rcases Nat.eq_zero_or_pos Y with h | h
            · have e1 := K2.out.1; rw [h, Nt.digits_zero] at e1; simp at e1; omega
            · exact h
          rw [Nt.digits_val, Nt.digits_val, ← Int.natCast_emod, Int.toNat_natCast] at f2
          have hr := Nat.mod_lt X hYp
          have hY2 : Y < 18446744073709551616 := Nt.digits_two (by rw [← K2.out.1]; omega)
          have F2 := Lib.hid f2
          have hn4 : n4 ≤ 2 := by rw [f2.1]; have := Nt.digits_len_mono (Nat.le_of_lt hr); rw [← K2.out.1] at this; omega
          have hG' : Hid (Nat.gcd Y (X % Y) = G) := by show _ = _; rw [← HG2.out, Nat.gcd_comm X Y, Nat.gcd_rec Y X, Nat.gcd_comm]
          have HB5 : Hid (Below w.heap.size w w5) := KB.out.trans (hbl.mono KB.out.size)
          have HK2 := Lib.hid (K2.out.2.1.below hbl)
          clear f1 f2 hbl
          go_wp2_with fail
          refine (small_any _ _ _ _ _ HK2.out (Nt.digits_dig Y) (by omega)).mono ?_
          rintro e w6 ⟨rfl, rfl⟩
          go_wp2_with fail
          refine (small_any _ _ _ _ _ F2.out.2.1 (Nt.digits_dig _) hn4).mono ?_
          rintro e w6 ⟨rfl, rfl⟩
          rw [Nt.digits_val, Nt.digits_val]
          obtain ⟨R, hR⟩ : ∃ R, R = X % Y := ⟨_, rfl⟩
          rw [← hR] at hG' hr ⊢
          clear hR F2 HK2 K1 K2 Hle HG2 h2 h2' h0 h0'
          go_wp2
          obtain ⟨wo, rfl⟩ : ∃ wo : World, wo = wr := ⟨_, rfl⟩
          go_loopw [9, 10] (fun s9 s10 wr => ∃ P Q : Nat, P < 18446744073709551616 ∧ Q < 18446744073709551616 ∧ s9 = .int .u64 P ∧ s10 = .int .u64 Q ∧ Hid (Nat.gcd P Q = G) ∧ Hid (Below w.heap.size w wr)) (fun _ s10 _ => (intOf s10).toNat)
          case atStart => exact ⟨Y, R, hY2, by omega, rfl, rfl, hG', HB5⟩
          case round =>
            clear hG' HB5
            obtain ⟨P, Q, hP, hQ, rfl, rfl, hG', HB5⟩ := hrel
            rcases Nat.eq_zero_or_pos Q with hq | hq
            · subst hq
              have hPG : Hid (P = G) := by have := hG'.out; rw [Nat.gcd_zero_right] at this; exact this
              have hs : SlR .u32 (wr.alloc (.cells #[.int .u32 ((P : Int) % 4294967296), .int .u32 ((P : Int) / 4294967296)] 105)) (some ⟨wr.heap.size, 0, none⟩) 2 2 [(P : Int) % 4294967296, (P : Int) / 4294967296] := (KBlk.new wr 105 [(P : Int) % 4294967296, (P : Int) / 4294967296]).slr_all rfl (Nat.le_refl _) (by decide)
              have Hs := Lib.hid hs
              have e2 : Nt.strip [(P : Int) % 4294967296, (P : Int) / 4294967296] = Nt.digits P := by
                have := Nt.two_digits (p := P) hP
                simpa using this
              have hf := strip_fresh (w0 := w) (m := 2) (KBlk.new wr 105 [(P : Int) % 4294967296, (P : Int) / 4294967296]) rfl (by decide) (Nt.Dig.cons (by omega) (Nt.Dig.cons (by omega) Nt.Dig.nil)) (by have := HB5.out.size; omega)
              have e3 : (Nt.val [(P : Int) % 4294967296, (P : Int) / 4294967296]).toNat = P := by simp [Nt.val]; omega
              rw [e3] at hf
              have HF := Lib.hid hf
              clear hs e2 hf e3
              go_wp2_with fail
              refine (cut_any _ _ _ _ _ Hs.out).mono ?_
              rintro e w7 ⟨rfl, rfl⟩
              go_wp2
              go_ret
              refine ⟨_, _, _, rfl, ?_, HB5.out.alloc HB5.out.size _⟩
              rw [← HG.out, ← hPG.out]
              exact HF.out
            · have hqb : ((Q : Int) == 0) = false := by rw [beq_eq_false_iff_ne]; omega
              have hqn : ((Q : Int) != 0) = true := by rw [bne_iff_ne]; omega
              have hB2 : Hid (∀ k, Below w.heap.size w (wr.drewN k)) := fun k => ⟨HB5.out.os, HB5.out.tape, HB5.out.output, HB5.out.size, HB5.out.block⟩
              have hg2 : Hid (Nat.gcd Q (P % Q) = G) := by show _ = _; rw [← hG'.out, Nat.gcd_comm P Q, Nat.gcd_rec Q P, Nat.gcd_comm]
              have hr := Nat.mod_lt P hq
              clear hG' HB5
              go_wp2
              go_quiet (fail)
              have HB7 := Lib.hid (hB2.out nq)
              go_wp2
              go_roundw
              case rel => exact ⟨Q, P % Q, hQ, by omega, rfl, by go_num, hg2, HB7⟩
              case measure => simp [intOf]; omega
end Go.Proofs.YtnedhbidmfoegaaGreat
namespace Go.Proofs.YtnedhbidmfoegaaGreat
open Go.RowKit
set_option linter.unusedVariables false
/-- A list of the call's own, the digits of v. -/
def OwnF (w0 w : World) (A : Option Addr) (n c v : Nat) : Prop := n = (Nt.digits v).length ∧ OwnK .u32 w w0.heap.size 105 A n c (Nt.digits v)
theorem OwnF.nat {w0 w : World} {A : Option Addr} {n c v : Nat} (h : OwnF w0 w A n c v) : NatF w0 w A n c v :=
  ⟨h.1, h.2.slr, fun hp => h.2.ty hp⟩
namespace Nt
end Nt
set_option maxHeartbeats 1000000 in
theorem rTrim_any (A : Option Addr) (n c : Nat) (l : List Int) (w : World) (h : SlR .u32 w A n c l) (da : Nt.Dig l) (hn : n ≤ 3000000000) :
    Calls Tryz.prog 156 #[.slice A n c] w fun e w' => ∃ A' n' c', e = .returned (.slice A' n' c') ∧ OwnF w w' A' n' c' (Nt.val l).toNat ∧ Below w.heap.size w w' := by
  have hnc := h.2.1
  have hnm : c ≤ maxLen := h.2.2.1
  unfold maxLen at hnm
  have hln : Hid (l.length = n) := h.1
  have He := Lib.hid (Nt.strip_eq da)
  clear da
  go_enter Tryz.func156, Tryz.ntmps156
  go_upto_block 0 with (fail)
  go_cut [3] (fun s3 wx => ∃ k : Nat, k ≤ n ∧ s3 = .int .i64 k ∧ Hid (l.take k = Nt.strip l) ∧ wx = w)
  case first =>
    go_wp2
    go_loop [3] (fun x => ∃ k : Nat, k ≤ n ∧ x = .int .i64 k ∧ Hid (Nt.strip l = Nt.strip (l.take k))) (fun x => (intOf x).toNat)
    case atStart => exact ⟨n, Nat.le_refl _, rfl, by show _ = _; rw [List.take_of_length_le (by have := hln.out; omega)]⟩
    case round =>
      obtain ⟨k, hk, rfl, hs⟩ := hrel
      rcases k with _ | k
      · have hfin : Hid (l.take 0 = Nt.strip l) := by have := hs.out; show _ = _; rw [this]; rfl
        clear hs
        go_wp2
        go_meet
        exact ⟨0, by omega, rfl, hfin, rfl⟩
      · obtain ⟨b, o, rfl, _, hc⟩ := h.pos (i := k) (by omega)
        have hsn := Nt.take_snoc l k (by have := hln.out; omega)
        by_cases h0 : l[k]?.getD 0 = 0
        · have hs' : Hid (Nt.strip l = Nt.strip (l.take k)) := by
            have := hs.out
            show _ = _
            rw [this, hsn, h0, Nt.strip_snoc_zero]
          rw [h0] at hc
          clear hs hsn h0
          go_wp2
          go_round
          case rel => exact ⟨k, by omega, by go_num, hs'⟩
          case measure => simp [intOf]
        · have hfin : Hid (l.take (k + 1) = Nt.strip l) := by
            have := hs.out
            show _ = _
            rw [this, hsn, Nt.strip_snoc_ne _ h0]
          have hb : (l[k]?.getD 0 == 0) = false := by simpa using h0
          clear hs hsn h0
          go_wp2
          go_meet
          exact ⟨k + 1, hk, rfl, hfin, rfl⟩
  case rest =>
    obtain ⟨k, hk, rfl, hfin, rfl⟩ := hcut
    have hsl := h.upto hk
    rw [hfin.out] at hsl
    have hkl : Hid (k = (Nt.strip l).length) := by show _ = _; rw [← hfin.out]; simp; have := hln.out; omega
    have hk' : (k : Int) ≤ c := by omega
    go_wp2_with (at_builtin; refine wpList_appendK _ rfl (.const (.slice none 0 0)) (.tmp 20) _ rfl 105 .u32 4 Tryz.underlying22 u32_info wc.heap.size none 0 0 [] rfl ?own A k c (Nt.strip l) rfl hsl ?h63 ?hby (Nat.le_refl _) ?_)
    case own => exact ⟨rfl, rfl, .inl ⟨rfl, rfl⟩⟩
    case h63 => unfold maxLen; omega
    case hby => omega
    intro A2 c2 w3 ho3 hb3
    have Ho := Lib.hid ho3
    clear ho3
    go_wp2
    go_ret
    refine ⟨A2, k, c2, rfl, ?_, hb3⟩
    unfold OwnF
    rw [← He.out]
    exact ⟨hkl.out, by simpa using Ho.out⟩
set_option maxHeartbeats 1000000 in
theorem rSame_any (A B : Option Addr) (n c m d : Nat) (a b : List Int) (w : World) (ha : SlR .u32 w A n c a) (hb : SlR .u32 w B m d b) :
    Calls Tryz.prog 138 #[.slice A n c, .slice B m d] w fun e w' => e = .returned (.bool (decide (a = b))) ∧ ∃ k, w' = w.drewN k := by
  have hcm : c ≤ maxLen := ha.2.2.1
  have hdm : d ≤ maxLen := hb.2.2.1
  unfold maxLen at hcm hdm
  have hac := ha.2.1
  have hbc := hb.2.1
  have HA := Lib.hid ha.1
  have HB := Lib.hid hb.1
  by_cases hlen : n = m
  · subst hlen
    go_enter Tryz.func138, Tryz.ntmps138
    go_wp2
    go_loopw [5] (fun iv wr => ∃ i : Nat, i ≤ n ∧ iv = .int .i64 i ∧ Hid (a.take i = b.take i) ∧ Hid (∃ q, wr = w.drewN q) ∧ Hid (SlR .u32 wr A n c a) ∧ Hid (SlR .u32 wr B n d b)) (fun iv _ => n - (intOf iv).toNat)
    case atStart => exact ⟨0, by omega, rfl, rfl, ⟨0, rfl⟩, ha, hb⟩
    case round =>
      obtain ⟨i, hi, rfl, ht, hq, hA, hB⟩ := hrel
      by_cases hin : i < n
      · obtain ⟨b1, o1, rfl, _, hc1⟩ := hA.out.pos hin
        obtain ⟨b2, o2, rfl, _, hc2⟩ := hB.out.pos hin
        have hin' : (i : Int) < n := by omega
        have e1 := Nt.take_snoc a i (by have := HA.out; omega)
        have e2 := Nt.take_snoc b i (by have := HB.out; omega)
        have hQ : Hid (∀ k, ∃ q, wr.drewN k = w.drewN q) := fun k => by obtain ⟨q, rfl⟩ := hq.out; exact ⟨q + k, by rw [World.drewN_drewN]⟩
        have hA2 : Hid (∀ k, SlR .u32 (wr.drewN k) (some ⟨b1, o1, none⟩) n c a) := fun k => hA.out
        have hB2 : Hid (∀ k, SlR .u32 (wr.drewN k) (some ⟨b2, o2, none⟩) n d b) := fun k => hB.out
        by_cases heq : a[i]?.getD 0 = b[i]?.getD 0
        · have ht' : Hid (a.take (i + 1) = b.take (i + 1)) := by show _ = _; rw [e1, e2, ht.out, heq]
          rw [heq] at hc1
          clear heq e1 e2 ht hq hA hB
          go_wp2
          go_quiet (fail)
          have z1 := Lib.hid (hQ.out nq)
          have z2 := Lib.hid (hA2.out nq)
          have z3 := Lib.hid (hB2.out nq)
          go_wp2
          go_roundw
          case rel => exact ⟨i + 1, by omega, by go_num, ht', z1, z2, z3⟩
          case measure => simp [intOf]; omega
        · have hne : Hid (decide (a = b) = false) := by
            show _ = _
            rw [decide_eq_false_iff_not]
            intro h
            rw [h] at heq
            exact heq rfl
          have hb0 : (a[i]?.getD 0 != b[i]?.getD 0) = true := by simpa using heq
          clear heq e1 e2 ht hq hA hB
          go_wp2
          go_quiet (fail)
          have z1 := Lib.hid (hQ.out nq)
          go_wp2
          go_ret
          exact ⟨by rw [hne.out]; rfl, z1.out⟩
      · obtain rfl : i = n := by omega
        have hy : Hid (decide (a = b) = true) := by
          have := ht.out
          rw [List.take_of_length_le (by have := HA.out; omega), List.take_of_length_le (by have := HB.out; omega)] at this
          show _ = _
          rw [decide_eq_true_iff]; exact this
        clear ht
        go_wp2
        go_ret
        exact ⟨by rw [hy.out]; rfl, hq.out⟩
  · have hb0 : ((n : Int) != (m : Int)) = true := by rw [bne_iff_ne]; omega
    have hne : Hid (decide (a = b) = false) := by
      show _ = _
      rw [decide_eq_false_iff_not]
      intro h
      have h1 := HA.out
      have h2 := HB.out
      rw [h] at h1
      omega
    clear hlen
    go_enter Tryz.func138, Tryz.ntmps138
    go_wp2
    go_ret
    exact ⟨by rw [hne.out]; rfl, 0, rfl⟩
set_option maxHeartbeats 1000000 in
theorem rCompare_any (A B : Option Addr) (n c m d : Nat) (a b : List Int) (w : World) (ha : SlR .u32 w A n c a) (hb : SlR .u32 w B m d b) (da : Nt.Dig a) (db : Nt.Dig b) (hn : n ≤ 2000000000) (hm : m ≤ 2000000000) :
    Calls Tryz.prog 162 #[.slice A n c, .slice B m d] w fun e w' => e = .returned (.int .i64 (Nt.cmpS (Nt.val a) (Nt.val b))) ∧ Below w.heap.size w w' := by
  have lx : Hid ((Nt.digits (Nt.val a).toNat).length ≤ n) := by rw [← Nt.strip_eq da, ← ha.1]; exact Nt.strip_length_le a
  have ly : Hid ((Nt.digits (Nt.val b).toNat).length ≤ m) := by rw [← Nt.strip_eq db, ← hb.1]; exact Nt.strip_length_le b
  have a0 := Nt.val_nonneg da
  have b0 := Nt.val_nonneg db
  have hfinal : ∀ X Y : Nat, X = (Nt.val a).toNat → Y = (Nt.val b).toNat → Nt.cmpS (Nt.val a) (Nt.val b) = Nt.cmpS (Nt.val (Nt.digits X)) (Nt.val (Nt.digits Y)) := by
    intro X Y hX hY
    rw [Nt.digits_val, Nt.digits_val, hX, hY, Int.toNat_of_nonneg a0, Int.toNat_of_nonneg b0]
  have Hfinal := Lib.hid hfinal
  clear hfinal
  go_enter Tryz.func162, Tryz.ntmps162
  go_wp2_with fail
  refine (rTrim_any _ _ _ _ _ ha da (by omega)).mono ?_
  rintro e w1 ⟨A1, N, c1, rfl, f1, b1⟩
  go_wp2_with fail
  refine (rTrim_any _ _ _ _ _ (hb.below b1) db (by omega)).mono ?_
  rintro e w2 ⟨A2, M, c2, rfl, f2, b2⟩
  have hx := f1.nat.2.1.below b2
  have hy := f2.nat.2.1
  have hN : N ≤ 2000000000 := by have := f1.1; have := lx.out; omega
  have hM : M ≤ 2000000000 := by have := f2.1; have := ly.out; omega
  have eN := Lib.hid f1.1
  have eM := Lib.hid f2.1
  have hB : Hid (Below w.heap.size w w2) := b1.trans (b2.mono b1.size)
  clear f1 f2 b1 b2 ha hb da db lx ly
  obtain ⟨X, hX⟩ : ∃ X, X = (Nt.val a).toNat := ⟨_, rfl⟩
  obtain ⟨Y, hY⟩ : ∃ Y, Y = (Nt.val b).toNat := ⟨_, rfl⟩
  have ev := Lib.hid (Hfinal.out X Y hX hY)
  rw [← hX] at hx eN
  rw [← hY] at hy eM
  have dx := Lib.hid (Nt.digits_dig X)
  have dy := Lib.hid (Nt.digits_dig Y)
  have nx := Lib.hid (Nt.digits_norm X)
  have ny := Lib.hid (Nt.digits_norm Y)
  clear Hfinal hX hY
  generalize Nt.digits X = x at *
  generalize Nt.digits Y = y at *
  have hxl := hx.2.1
  have hyl := hy.2.1
  have hcm : c1 ≤ maxLen := hx.2.2.1
  have hdm : c2 ≤ maxLen := hy.2.2.1
  unfold maxLen at hcm hdm
  by_cases hlen : N = M
  · subst hlen
    go_wp2
    go_loopw [5] (fun v wr => ∃ k : Nat, k ≤ N ∧ v = .int .i64 ((k : Int) - 1) ∧ Hid (x.drop k = y.drop k) ∧ Hid (Below w.heap.size w wr) ∧ Hid (SlR .u32 wr A1 N c1 x) ∧ Hid (SlR .u32 wr A2 N c2 y)) (fun v _ => (intOf v + 1).toNat)
    case atStart => exact ⟨N, Nat.le_refl _, rfl, by show _ = _; rw [List.drop_of_length_le (by have := eN.out; omega), List.drop_of_length_le (by have := eM.out; omega)], hB, hx, hy⟩
    case round =>
      obtain ⟨k, hk, rfl, hdr, hbr, hA, hBB⟩ := hrel
      clear hx hy hB
      rcases k with _ | k
      · have hfin : Hid (Nt.cmpS (Nt.val a) (Nt.val b) = 0) := by
          have h1 := hdr.out
          have h2 := ev.out
          simp only [List.drop_zero] at h1
          show _ = _
          rw [h2, h1]; simp [Nt.cmpS]
        clear hdr
        go_wp2
        go_ret
        exact ⟨by rw [hfin.out]; rfl, hbr.out⟩
      · obtain ⟨b1, o1, rfl, _, hc1⟩ := hA.out.pos (i := k) (by omega)
        obtain ⟨b2, o2, rfl, _, hc2⟩ := hBB.out.pos (i := k) (by omega)
        have hkl : (k : Int) < N := by omega
        have hQ : Hid (∀ k, Below w.heap.size w (wr.drewN k)) := fun k => ⟨hbr.out.os, hbr.out.tape, hbr.out.output, hbr.out.size, hbr.out.block⟩
        have hA2 : Hid (∀ k, SlR .u32 (wr.drewN k) (some ⟨b1, o1, none⟩) N c1 x) := fun k => hA.out
        have hB2 : Hid (∀ k, SlR .u32 (wr.drewN k) (some ⟨b2, o2, none⟩) N c2 y) := fun k => hBB.out
        by_cases heq : x[k]?.getD 0 = y[k]?.getD 0
        · have hdr' : Hid (x.drop k = y.drop k) := by
            have h1 := hdr.out
            have e1 := eN.out
            have e2 := eM.out
            rw [List.getElem?_eq_getElem (by omega), List.getElem?_eq_getElem (by omega)] at heq
            show _ = _
            rw [List.drop_eq_getElem_cons (by omega), List.drop_eq_getElem_cons (i := k) (l := y) (by omega), h1]
            congr 1
          rw [heq] at hc1
          clear heq hdr
          go_wp2
          go_quiet (fail)
          have z1 := Lib.hid (hQ.out nq)
          have z2 := Lib.hid (hA2.out nq)
          have z3 := Lib.hid (hB2.out nq)
          have c1' : (wr.drewN nq).cell? ⟨b1, o1 + k, none⟩ = some (.int .u32 (y[k]?.getD 0)) := hc1
          have c2' : (wr.drewN nq).cell? ⟨b2, o2 + k, none⟩ = some (.int .u32 (y[k]?.getD 0)) := hc2
          generalize wr.drewN nq = wq at *
          clear hc1 hc2 hQ hA2 hB2 hbr hA hBB
          have hQ : Hid (∀ k, Below w.heap.size w (wq.drewN k)) := fun k => ⟨z1.out.os, z1.out.tape, z1.out.output, z1.out.size, z1.out.block⟩
          have hA2 : Hid (∀ k, SlR .u32 (wq.drewN k) (some ⟨b1, o1, none⟩) N c1 x) := fun k => z2.out
          have hB2 : Hid (∀ k, SlR .u32 (wq.drewN k) (some ⟨b2, o2, none⟩) N c2 y) := fun k => z3.out
          go_wp2
          go_quiet (fail)
          have z1 := Lib.hid (hQ.out nq)
          have z2 := Lib.hid (hA2.out nq)
          have z3 := Lib.hid (hB2.out nq)
          go_wp2
          go_roundw
          case rel => exact ⟨k, by omega, by go_num, hdr', z1, z2, z3⟩
          case measure => simp [intOf]
        · have hfin : Hid (Nt.cmpS (x[k]?.getD 0) (y[k]?.getD 0) = Nt.cmpS (Nt.val a) (Nt.val b)) := by
            show _ = _
            rw [ev.out]
            exact Nt.cmp_at dx.out dy.out k (by have := eN.out; omega) (by have := eM.out; omega) hdr.out heq
          clear hdr
          by_cases hlt : x[k]?.getD 0 < y[k]?.getD 0
          · have hv : Hid (Nt.cmpS (Nt.val a) (Nt.val b) = -1) := by show _ = _; rw [← hfin.out]; unfold Nt.cmpS; rw [if_pos hlt]
            clear heq
            go_wp2
            go_quiet (fail)
            have z1 := Lib.hid (hQ.out nq)
            go_wp2
            go_ret
            exact ⟨by rw [hv.out]; rfl, z1.out⟩
          · have hv : Hid (Nt.cmpS (Nt.val a) (Nt.val b) = 1) := by show _ = _; rw [← hfin.out]; unfold Nt.cmpS; rw [if_neg hlt, if_neg heq]
            have hgt : y[k]?.getD 0 < x[k]?.getD 0 := by omega
            clear heq
            go_wp2
            go_quiet (fail)
            have z1 := Lib.hid (hQ.out nq)
            have c1' : (wr.drewN nq).cell? ⟨b1, o1 + k, none⟩ = some (.int .u32 (x[k]?.getD 0)) := hc1
            have c2' : (wr.drewN nq).cell? ⟨b2, o2 + k, none⟩ = some (.int .u32 (y[k]?.getD 0)) := hc2
            generalize wr.drewN nq = wq at *
            clear hc1 hc2 hQ hA2 hB2 hbr hA hBB
            have hQ : Hid (∀ k, Below w.heap.size w (wq.drewN k)) := fun k => ⟨z1.out.os, z1.out.tape, z1.out.output, z1.out.size, z1.out.block⟩
            go_wp2
            go_quiet (fail)
            have z1 := Lib.hid (hQ.out nq)
            go_wp2
            go_ret
            exact ⟨by rw [hv.out]; rfl, z1.out⟩
  · have hb0 : ((N : Int) != (M : Int)) = true := by rw [bne_iff_ne]; omega
    by_cases hlt : N < M
    · have hv : Hid (Nt.cmpS (Nt.val a) (Nt.val b) = -1) := by
        have := Nt.len_lt dx.out dy.out ny.out (by have := eN.out; have := eM.out; omega)
        show _ = _
        rw [ev.out]; unfold Nt.cmpS; rw [if_pos this]
      clear hlen
      go_wp2
      go_ret
      exact ⟨by rw [hv.out]; rfl, hB.out⟩
    · have hv : Hid (Nt.cmpS (Nt.val a) (Nt.val b) = 1) := by
        have := Nt.len_lt dy.out dx.out nx.out (by have := eN.out; have := eM.out; omega)
        show _ = _
        rw [ev.out]; unfold Nt.cmpS; rw [if_neg (by omega), if_neg (by omega)]
      clear hlen
      go_wp2
      go_ret
      exact ⟨by rw [hv.out]; rfl, hB.out⟩
end Go.Proofs.YtnedhbidmfoegaaGreat
namespace Go.Proofs.YtnedhbidmfoegaaGreat
open Go.RowKit
set_option linter.unusedVariables false
theorem OwnK.blk {k : IntKind} {w : World} {B : Nat} {t : TypeId} {A : Option Addr} {n c : Nat} {l : List Int} (h : OwnK k w B t A n c l) : ∀ a, A = some a → B ≤ a.block ∧ a.block < w.heap.size := by
  intro a ha
  rcases h.2.2 with ⟨he, _⟩ | ⟨g, cap, cur, he, hg, hh, _⟩
  · injection he with e1; rw [e1] at ha; cases ha
  · injection he with e1
    rw [e1] at ha
    injection ha with ha
    subst ha
    refine ⟨hg, ?_⟩
    rcases Nat.lt_or_ge g w.heap.size with hlt | hge
    · exact hlt
    · rw [Array.getElem?_eq_none hge] at hh; cases hh
namespace Nt
theorem snoc_val (S : List Int) (x : Int) : val (S ++ [x]) = val S + pw S.length * x := by rw [val_append]; simp [val]
theorem add_snoc {S a b : List Int} {i : Nat} {c t : Int} (hl : S.length = i) (h : val S + c * pw i = valTo a i + valTo b i) (ht : t = c + a[i]?.getD 0 + b[i]?.getD 0) :
    val (S ++ [t % 4294967296]) + (t / 4294967296) * pw (i + 1) = valTo a (i + 1) + valTo b (i + 1) := by
  rw [snoc_val, valTo_succ, valTo_succ, pw, hl]
  have e := Int.mul_ediv_add_emod t 4294967296
  generalize t % 4294967296 = r at *
  generalize t / 4294967296 = q at *
  grind
theorem Dig.snoc {l : List Int} (h : Dig l) {x : Int} (hx : 0 ≤ x ∧ x < 4294967296) : Dig (l ++ [x]) := h.append (Dig.cons hx Dig.nil)
end Nt
set_option maxHeartbeats 2000000 in
theorem rAdd_any (A B : Option Addr) (n c m d : Nat) (a b : List Int) (w : World) (ha : SlR .u32 w A n c a) (hb : SlR .u32 w B m d b) (da : Nt.Dig a) (db : Nt.Dig b) (hn : n ≤ 1000000000) (hm : m ≤ 1000000000) :
    Calls Tryz.prog 161 #[.slice A n c, .slice B m d] w fun e w' => ∃ A' n' c', e = .returned (.slice A' n' c') ∧ NatF w w' A' n' c' (Nt.val a + Nt.val b).toNat ∧ Below w.heap.size w w' := by
  have hla := Lib.hid ha.1
  have hlb := Lib.hid hb.1
  have Hda := Lib.hid da
  have Hdb := Lib.hid db
  clear da db
  go_enter Tryz.func161, Tryz.ntmps161
  go_wp2
  go_loopw [5, 6, 7] (fun sv cv iv wr => ∃ (i : Nat) (cy : Int) (S : List Int) (A1 : Option Addr) (c1 : Nat), i ≤ 1000000000 ∧ Hid (i ≤ n ∨ i ≤ m) ∧ 0 ≤ cy ∧ cy ≤ 1 ∧ sv = .slice A1 i c1 ∧ cv = .int .u64 cy ∧ iv = .int .i64 i ∧ OwnK .u32 wr w.heap.size 105 A1 i c1 S ∧ Hid (Nt.Dig S) ∧ Hid (Nt.val S + cy * Nt.pw i = Nt.valTo a i + Nt.valTo b i) ∧ Below w.heap.size w wr) (fun _ _ iv _ => n + m - (intOf iv).toNat)
  case atStart => exact ⟨0, 0, [], none, 0, by omega, .inl (Nat.zero_le _), by omega, by omega, rfl, rfl, rfl, ⟨rfl, rfl, .inl ⟨rfl, rfl⟩⟩, Nt.Dig.nil, by simp [Hid, Nt.valTo_zero, Nt.val], Below.refl _ _⟩
  case round =>
    obtain ⟨i, cy, S, A1, c1, hi, him, c0, c1', rfl, rfl, rfl, hk, dS, hv, hbr⟩ := hrel
    have hSl := Lib.hid hk.1
    by_cases hia : i < n
    · by_cases hib : i < m
      · skip
        obtain ⟨b1, o1, rfl, _, hc1⟩ := (ha.below hbr).pos hia
        have q1 := Hda.out.at i
        have hia' : (i : Int) < n := by omega
        obtain ⟨b2, o2, rfl, _, hc2⟩ := (hb.below hbr).pos hib
        have q2 := Hdb.out.at i
        have hib' : (i : Int) < m := by omega
        have Hst := Lib.hid (Nt.add_snoc (t := cy + a[i]?.getD 0 + b[i]?.getD 0) hSl.out hv.out (rfl))
        have hnew : Hid (SlR .u32 (wr.alloc (.cells #[.int .u32 ((cy + a[i]?.getD 0 + b[i]?.getD 0) % 4294967296)] 105)) (some ⟨wr.heap.size, 0, none⟩) 1 1 [(cy + a[i]?.getD 0 + b[i]?.getD 0) % 4294967296]) := (KBlk.new wr 105 [(cy + a[i]?.getD 0 + b[i]?.getD 0) % 4294967296]).slr_all rfl (Nat.le_refl _) (by decide)
        go_wp2_with (at_builtin; refine wpList_appendK _ rfl (.tmp 42) (.tmp 45) _ rfl 105 .u32 4 Tryz.underlying22 u32_info w.heap.size A1 i c1 S rfl ?own (some ⟨wr.heap.size, 0, none⟩) 1 1 [(cy + a[i]?.getD 0 + b[i]?.getD 0) % 4294967296] rfl ?slr ?h63 ?hby ?hbase ?_)
        case own => exact hk.below ((Below.refl _ _).alloc (Nat.le_refl _) _)
        case slr => exact hnew.out
        case h63 => unfold maxLen; omega
        case hby => omega
        case hbase => have := hbr.size; simp; omega
        intro A2 c2 w3 ho3 hb3
        have Ho := Lib.hid ho3
        have HB : Hid (Below w.heap.size w w3) := (hbr.alloc hbr.size _).trans hb3
        clear hnew ho3 hb3 hk hv
        go_wp2
        go_roundw
        case rel => exact ⟨i + 1, _, _, A2, c2, by omega, .inl (by omega), by omega, by omega, rfl, rfl, by go_num, Ho.out, dS.out.snoc (by omega), Hst.out, HB.out⟩
        case measure => simp [intOf]; omega
      · skip
        obtain ⟨b1, o1, rfl, _, hc1⟩ := (ha.below hbr).pos hia
        have q1 := Hda.out.at i
        have hia' : (i : Int) < n := by omega
        have e2 : b[i]?.getD 0 = 0 := by rw [List.getElem?_eq_none (by have := hlb.out; omega)]; rfl
        have hib' : ¬ (i : Int) < m := by omega
        have hib2 : decide ((i : Int) < m) = false := by simpa using hib'
        have Hst := Lib.hid (Nt.add_snoc (t := cy + a[i]?.getD 0) hSl.out hv.out (by rw [e2]; omega))
        clear e2
        have hnew : Hid (SlR .u32 (wr.alloc (.cells #[.int .u32 ((cy + a[i]?.getD 0) % 4294967296)] 105)) (some ⟨wr.heap.size, 0, none⟩) 1 1 [(cy + a[i]?.getD 0) % 4294967296]) := (KBlk.new wr 105 [(cy + a[i]?.getD 0) % 4294967296]).slr_all rfl (Nat.le_refl _) (by decide)
        go_wp2_with (at_builtin; refine wpList_appendK _ rfl (.tmp 42) (.tmp 45) _ rfl 105 .u32 4 Tryz.underlying22 u32_info w.heap.size A1 i c1 S rfl ?own (some ⟨wr.heap.size, 0, none⟩) 1 1 [(cy + a[i]?.getD 0) % 4294967296] rfl ?slr ?h63 ?hby ?hbase ?_)
        case own => exact hk.below ((Below.refl _ _).alloc (Nat.le_refl _) _)
        case slr => exact hnew.out
        case h63 => unfold maxLen; omega
        case hby => omega
        case hbase => have := hbr.size; simp; omega
        intro A2 c2 w3 ho3 hb3
        have Ho := Lib.hid ho3
        have HB : Hid (Below w.heap.size w w3) := (hbr.alloc hbr.size _).trans hb3
        clear hnew ho3 hb3 hk hv
        go_wp2
        go_roundw
        case rel => exact ⟨i + 1, _, _, A2, c2, by omega, .inl (by omega), by omega, by omega, rfl, rfl, by go_num, Ho.out, dS.out.snoc (by omega), Hst.out, HB.out⟩
        case measure => simp [intOf]; omega
    · by_cases hib : i < m
      · skip
        have e1 : a[i]?.getD 0 = 0 := by rw [List.getElem?_eq_none (by have := hla.out; omega)]; rfl
        have hia' : ¬ (i : Int) < n := by omega
        have hia2 : decide ((i : Int) < n) = false := by simpa using hia'
        obtain ⟨b2, o2, rfl, _, hc2⟩ := (hb.below hbr).pos hib
        have q2 := Hdb.out.at i
        have hib' : (i : Int) < m := by omega
        have Hst := Lib.hid (Nt.add_snoc (t := cy + b[i]?.getD 0) hSl.out hv.out (by rw [e1]; omega))
        clear e1
        have hnew : Hid (SlR .u32 (wr.alloc (.cells #[.int .u32 ((cy + b[i]?.getD 0) % 4294967296)] 105)) (some ⟨wr.heap.size, 0, none⟩) 1 1 [(cy + b[i]?.getD 0) % 4294967296]) := (KBlk.new wr 105 [(cy + b[i]?.getD 0) % 4294967296]).slr_all rfl (Nat.le_refl _) (by decide)
        go_wp2_with (at_builtin; refine wpList_appendK _ rfl (.tmp 42) (.tmp 45) _ rfl 105 .u32 4 Tryz.underlying22 u32_info w.heap.size A1 i c1 S rfl ?own (some ⟨wr.heap.size, 0, none⟩) 1 1 [(cy + b[i]?.getD 0) % 4294967296] rfl ?slr ?h63 ?hby ?hbase ?_)
        case own => exact hk.below ((Below.refl _ _).alloc (Nat.le_refl _) _)
        case slr => exact hnew.out
        case h63 => unfold maxLen; omega
        case hby => omega
        case hbase => have := hbr.size; simp; omega
        intro A2 c2 w3 ho3 hb3
        have Ho := Lib.hid ho3
        have HB : Hid (Below w.heap.size w w3) := (hbr.alloc hbr.size _).trans hb3
        clear hnew ho3 hb3 hk hv
        go_wp2
        go_roundw
        case rel => exact ⟨i + 1, _, _, A2, c2, by omega, .inr (by omega), by omega, by omega, rfl, rfl, by go_num, Ho.out, dS.out.snoc (by omega), Hst.out, HB.out⟩
        case measure => simp [intOf]; omega
      · skip
        have e1 : a[i]?.getD 0 = 0 := by rw [List.getElem?_eq_none (by have := hla.out; omega)]; rfl
        have hia' : ¬ (i : Int) < n := by omega
        have hia2 : decide ((i : Int) < n) = false := by simpa using hia'
        have e2 : b[i]?.getD 0 = 0 := by rw [List.getElem?_eq_none (by have := hlb.out; omega)]; rfl
        have hib' : ¬ (i : Int) < m := by omega
        have hib2 : decide ((i : Int) < m) = false := by simpa using hib'
        have hval : Nt.val (S ++ [cy]) = Nt.val a + Nt.val b := by
          have h1 := hv.out
          rw [Nt.valTo_all a (by have := hla.out; omega), Nt.valTo_all b (by have := hlb.out; omega)] at h1
          rw [Nt.snoc_val, hSl.out, Int.mul_comm (Nt.pw i)]; exact h1
        have Hval := Lib.hid hval
        have dS2 := Lib.hid (dS.out.snoc (x := cy) (by omega))
        have hnew : Hid (SlR .u32 (wr.alloc (.cells #[.int .u32 cy] 105)) (some ⟨wr.heap.size, 0, none⟩) 1 1 [cy]) := (KBlk.new wr 105 [cy]).slr_all rfl (Nat.le_refl _) (by decide)
        clear hval e1 e2
        go_wp2_with (at_builtin; refine wpList_appendK _ rfl (.tmp 49) (.tmp 52) _ rfl 105 .u32 4 Tryz.underlying22 u32_info w.heap.size A1 i c1 S rfl ?own2 (some ⟨wr.heap.size, 0, none⟩) 1 1 [cy] rfl ?slr2 ?h632 ?hby2 ?hbase2 ?_)
        case own2 => exact hk.below ((Below.refl _ _).alloc (Nat.le_refl _) _)
        case slr2 => exact hnew.out
        case h632 => unfold maxLen; omega
        case hby2 => omega
        case hbase2 => have := hbr.size; simp; omega
        intro A2 c2 w3 ho3 hb3
        have HB : Hid (Below w.heap.size w w3) := (hbr.alloc hbr.size _).trans hb3
        have Hs := Lib.hid ho3.slr
        clear hnew ho3 hb3 hk hv
        go_wp2_with fail
        refine (rTrim_any _ _ _ _ _ Hs.out dS2.out (by omega)).mono ?_
        rintro e w4 ⟨A3, n3, c3, rfl, f3, hb4⟩
        have hf := f3.nat
        rw [Hval.out] at hf
        have HF := Lib.hid hf
        clear f3 hf
        go_wp2
        go_ret
        exact ⟨A3, n3, c3, rfl, HF.out.mono HB.out.size, HB.out.trans (hb4.mono HB.out.size)⟩
set_option maxHeartbeats 2000000 in
theorem rSub_any (A B : Option Addr) (n c m d : Nat) (a b : List Int) (w : World) (ha : SlR .u32 w A n c a) (hb : SlR .u32 w B m d b) (da : Nt.Dig a) (db : Nt.Dig b) (hn : n ≤ 1000000000) (hm : m ≤ 1000000000) :
    Calls Tryz.prog 163 #[.slice A n c, .slice B m d] w fun e w' => ∃ A' n' c', e = .returned (.slice A' n' c') ∧ NatF w w' A' n' c' (Nt.val a - Nt.val b).toNat ∧ Below w.heap.size w w' := by
  by_cases hle : Nt.val a < Nt.val b
  · have hcmp : Nt.cmpS (Nt.val a) (Nt.val b) = -1 := by unfold Nt.cmpS; rw [if_pos hle]
    have hfin : Hid ((Nt.val a - Nt.val b).toNat = 0) := by show _ = _; omega
    have Hc := Lib.hid hcmp
    clear hle hcmp
    go_enter Tryz.func163, Tryz.ntmps163
    go_wp2_with fail
    refine (rCompare_any _ _ _ _ _ _ _ _ _ ha hb da db (by omega) (by omega)).mono ?_
    rintro e w1 ⟨rfl, hb1⟩
    rw [Hc.out]
    go_wp2
    go_ret
    refine ⟨none, 0, 0, rfl, ?_, hb1⟩
    rw [hfin.out]
    exact ⟨by rw [Nt.digits_zero]; rfl, by rw [Nt.digits_zero]; exact SlR.nil _ _ _ (Nat.zero_le _), fun h => absurd h (by omega)⟩
  · have hcmp : 0 ≤ Nt.cmpS (Nt.val a) (Nt.val b) := by unfold Nt.cmpS; rw [if_neg hle]; split <;> omega
    obtain ⟨s, hs⟩ : ∃ s, s = Nt.cmpS (Nt.val a) (Nt.val b) := ⟨_, rfl⟩
    have Hs := Lib.hid hs
    have Hle : Hid (Nt.val b ≤ Nt.val a) := by show _ ≤ _; omega
    have a0 := Nt.val_nonneg da
    have b0 := Nt.val_nonneg db
    have ev : Hid (∀ X Y : Nat, X = (Nt.val a).toNat → Y = (Nt.val b).toNat → Nt.val (Nt.digits X) = Nt.val a ∧ Nt.val (Nt.digits Y) = Nt.val b) := by
      intro X Y hX hY
      rw [Nt.digits_val, Nt.digits_val, hX, hY, Int.toNat_of_nonneg a0, Int.toNat_of_nonneg b0]
      exact ⟨rfl, rfl⟩
    have lx : Hid ((Nt.digits (Nt.val a).toNat).length ≤ n) := by rw [← Nt.strip_eq da, ← ha.1]; exact Nt.strip_length_le a
    rw [← hs] at hcmp
    clear hle hs
    go_enter Tryz.func163, Tryz.ntmps163
    go_wp2_with fail
    refine (rCompare_any _ _ _ _ _ _ _ _ _ ha hb da db (by omega) (by omega)).mono ?_
    rintro e w1 ⟨rfl, hb1⟩
    rw [← Hs.out]
    clear Hs
    go_wp2_with fail
    refine (rTrim_any _ _ _ _ _ (hb.below hb1) db (by omega)).mono ?_
    rintro e w2 ⟨A2, M, c2, rfl, f2, hb2⟩
    have hB2 : Below w.heap.size w w2 := hb1.trans (hb2.mono hb1.size)
    go_wp2_with fail
    refine (rTrim_any _ _ _ _ _ (ha.below hB2) da (by omega)).mono ?_
    rintro e w3 ⟨A1, N, c1, rfl, f1, hb3⟩
    have hB : Below w.heap.size w w3 := hB2.trans (hb3.mono hB2.size)
    have hAy : ∀ p, A2 = some p → p.block < w2.heap.size := fun p hp => (f2.2.blk p hp).2
    have hy : Hid (SlR .u32 w3 A2 M c2 (Nt.digits (Nt.val b).toNat)) := f2.nat.2.1.below hb3
    obtain ⟨X, hX⟩ : ∃ X, X = (Nt.val a).toNat := ⟨_, rfl⟩
    obtain ⟨Y, hY⟩ : ∃ Y, Y = (Nt.val b).toNat := ⟨_, rfl⟩
    have eN := Lib.hid f1.1
    have eM := Lib.hid f2.1
    have hk := f1.2
    have hws := hB2.size
    have Ev := Lib.hid (ev.out X Y hX hY)
    have hN : N ≤ 1000000000 := by have := f1.1; have := lx.out; omega
    rw [← hX] at eN hk
    rw [← hY] at eM hy
    have dx := Lib.hid (Nt.digits_dig X)
    have dy := Lib.hid (Nt.digits_dig Y)
    have ny := Lib.hid (Nt.digits_norm Y)
    have nx := Lib.hid (Nt.digits_norm X)
    have hMN : M ≤ N := by
      rw [eN.out, eM.out]
      rcases Nat.lt_or_ge (Nt.digits X).length (Nt.digits Y).length with h | h
      · have := Nt.len_lt dx.out dy.out ny.out h
        have := Ev.out
        have := Hle.out
        omega
      · exact h
    clear f1 f2 hb1 hb2 hb3 hB2 ha hb da db hX hY ev lx
    generalize Nt.digits X = x at *
    generalize Nt.digits Y = y at *
    have hkm := hy.out.2.2.1
    have hkm1 := hk.slr.2.2.1
    have hkc1 := hk.slr.2.1
    unfold maxLen at hkm hkm1
    rcases Nat.eq_zero_or_pos N with hN0 | hN0
    · subst hN0
      have hx0 : Hid ((Nt.val a - Nt.val b).toNat = 0) := by
        have h1 := Ev.out
        have h2 : x = [] := List.eq_nil_of_length_eq_zero eN.out.symm
        rw [h2] at h1
        simp only [Nt.val] at h1
        show _ = _
        omega
      have Hk := Lib.hid hk.slr
      have Hx : Hid (x = []) := List.eq_nil_of_length_eq_zero eN.out.symm
      have HB := Lib.hid hB
      clear hk hB
      go_wp2
      go_loop [7] (fun iv => iv = .int .i64 0) (fun _ => 0)
      case atStart => rfl
      case round =>
        subst hrel
        go_wp2_with fail
        refine (rTrim_any _ _ _ _ _ Hk.out dx.out (by omega)).mono ?_
        rintro e w4 ⟨A3, n3, c3, rfl, f3, hb4⟩
        have hf := f3.nat
        rw [Hx.out] at hf
        have HF := Lib.hid hf
        clear f3 hf
        go_wp2
        go_ret
        refine ⟨A3, n3, c3, rfl, ?_, HB.out.trans (hb4.mono HB.out.size)⟩
        rw [hx0.out]
        exact HF.out.mono HB.out.size
    obtain ⟨g, rfl, hgw2, hg3⟩ := hk.pos hN0
    have hgw : w.heap.size ≤ g := by omega
    have hkk : OwnK .u32 w3 w2.heap.size 105 (some ⟨g, 0, none⟩) N c1 x := hk
    clear hk
    go_wp2
    go_loopw [6, 7] (fun cv iv wr => ∃ (i : Nat) (bo : Int) (S : List Int), i ≤ N ∧ 0 ≤ bo ∧ bo ≤ 1 ∧ cv = .int .u64 bo ∧ iv = .int .i64 i ∧ OwnK .u32 wr w2.heap.size 105 (some ⟨g, 0, none⟩) N c1 S ∧ Hid (S.length = N) ∧ Hid (Nt.Dig S) ∧ Hid (Nt.valTo S i + Nt.valTo y i = Nt.valTo x i + bo * Nt.pw i) ∧ Hid (∀ k, i ≤ k → S[k]?.getD 0 = x[k]?.getD 0) ∧ Hid (SlR .u32 wr A2 M c2 y) ∧ Below w.heap.size w wr) (fun _ iv _ => N - (intOf iv).toNat)
    case atStart => exact ⟨0, 0, x, by omega, by omega, by omega, rfl, rfl, hkk, eN.out.symm, dx, by simp [Hid, Nt.valTo_zero], fun _ _ => rfl, hy, hB⟩
    case round =>
      clear hkk hy hB
      obtain ⟨i, bo, S, hi, c0, c1', rfl, rfl, hk, hS, dS, hv, hsame, hy, hbr⟩ := hrel
      by_cases hin : i < N
      · have hc1 := hk.cell (i := i) hin
        rw [hsame.out i (Nat.le_refl _)] at hc1
        have hf1 := hk.frozen i
        have q1 := dx.out.at i
        have hin' : (i : Int) < N := by omega
        by_cases hib : i < M
        · skip
          obtain ⟨b2, o2, rfl, _, hc2⟩ := hy.out.pos hib
          have q2 := dy.out.at i
          have hib' : (i : Int) < M := by omega
          have Hst := Lib.hid (Nt.sub_step (S := S) (t := x[i]?.getD 0 - bo - y[i]?.getD 0) (by have := hS.out; omega) hv.out rfl (by have := dy.out.at i; omega) (by have := dy.out.at i; omega))
          by_cases hlt : x[i]?.getD 0 < bo + y[i]?.getD 0
          · have hl2 : x[i]?.getD 0 - bo - y[i]?.getD 0 < 0 := by omega
            have hst := Hst.out
            rw [if_pos hl2, show (x[i]?.getD 0 - bo - y[i]?.getD 0) % 4294967296 = x[i]?.getD 0 + 4294967296 - (bo + y[i]?.getD 0) by omega] at hst
            have Hst2 := Lib.hid hst
            have hd1 : 0 ≤ x[i]?.getD 0 + 4294967296 - (bo + y[i]?.getD 0) := by omega
            have hd2 : x[i]?.getD 0 + 4294967296 - (bo + y[i]?.getD 0) < 4294967296 := by omega
            clear Hst hst hl2
            go_wp2
            go_roundw
            case rel => exact ⟨i + 1, _, _, by omega, by omega, by omega, rfl, by go_num, hk.set i _, by have := hS.out; show _ = _; simpa using this, dS.out.set i ⟨hd1, hd2⟩, Hst2.out, fun k hk' => by rw [List.getElem?_set_ne (by omega)]; exact hsame.out k (by omega), hy.out.setCell _ (fun p hp => by have := hAy p hp; show p.block ≠ g; omega), hbr.setCell (p := ⟨g, i, none⟩) hgw _⟩
            case measure => simp [intOf]; omega
          · have hl2 : ¬ x[i]?.getD 0 - bo - y[i]?.getD 0 < 0 := by omega
            have hst := Hst.out
            rw [if_neg hl2, show (x[i]?.getD 0 - bo - y[i]?.getD 0) % 4294967296 = x[i]?.getD 0 - (bo + y[i]?.getD 0) by omega] at hst
            have Hst2 := Lib.hid hst
            have hd1 : 0 ≤ x[i]?.getD 0 - (bo + y[i]?.getD 0) := by omega
            have hd2 : x[i]?.getD 0 - (bo + y[i]?.getD 0) < 4294967296 := by omega
            clear Hst hst hl2
            go_wp2
            go_roundw
            case rel => exact ⟨i + 1, _, _, by omega, by omega, by omega, rfl, by go_num, hk.set i _, by have := hS.out; show _ = _; simpa using this, dS.out.set i ⟨hd1, hd2⟩, Hst2.out, fun k hk' => by rw [List.getElem?_set_ne (by omega)]; exact hsame.out k (by omega), hy.out.setCell _ (fun p hp => by have := hAy p hp; show p.block ≠ g; omega), hbr.setCell (p := ⟨g, i, none⟩) hgw _⟩
            case measure => simp [intOf]; omega
        · skip
          have e2 : y[i]?.getD 0 = 0 := by rw [List.getElem?_eq_none (by have := eM.out; omega)]; rfl
          have hib' : ¬ (i : Int) < M := by omega
          have Hst := Lib.hid (Nt.sub_step (S := S) (t := x[i]?.getD 0 - bo - y[i]?.getD 0) (by have := hS.out; omega) hv.out rfl (by have := dy.out.at i; omega) (by have := dy.out.at i; omega))
          rw [e2, Int.sub_zero] at Hst
          clear e2
          by_cases hlt : x[i]?.getD 0 < bo
          · have hl2 : x[i]?.getD 0 - bo < 0 := by omega
            have hst := Hst.out
            rw [if_pos hl2, show (x[i]?.getD 0 - bo) % 4294967296 = x[i]?.getD 0 + 4294967296 - (bo) by omega] at hst
            have Hst2 := Lib.hid hst
            have hd1 : 0 ≤ x[i]?.getD 0 + 4294967296 - (bo) := by omega
            have hd2 : x[i]?.getD 0 + 4294967296 - (bo) < 4294967296 := by omega
            clear Hst hst hl2
            go_wp2
            go_roundw
            case rel => exact ⟨i + 1, _, _, by omega, by omega, by omega, rfl, by go_num, hk.set i _, by have := hS.out; show _ = _; simpa using this, dS.out.set i ⟨hd1, hd2⟩, Hst2.out, fun k hk' => by rw [List.getElem?_set_ne (by omega)]; exact hsame.out k (by omega), hy.out.setCell _ (fun p hp => by have := hAy p hp; show p.block ≠ g; omega), hbr.setCell (p := ⟨g, i, none⟩) hgw _⟩
            case measure => simp [intOf]; omega
          · have hl2 : ¬ x[i]?.getD 0 - bo < 0 := by omega
            have hst := Hst.out
            rw [if_neg hl2, show (x[i]?.getD 0 - bo) % 4294967296 = x[i]?.getD 0 - (bo) by omega] at hst
            have Hst2 := Lib.hid hst
            have hd1 : 0 ≤ x[i]?.getD 0 - (bo) := by omega
            have hd2 : x[i]?.getD 0 - (bo) < 4294967296 := by omega
            clear Hst hst hl2
            go_wp2
            go_roundw
            case rel => exact ⟨i + 1, _, _, by omega, by omega, by omega, rfl, by go_num, hk.set i _, by have := hS.out; show _ = _; simpa using this, dS.out.set i ⟨hd1, hd2⟩, Hst2.out, fun k hk' => by rw [List.getElem?_set_ne (by omega)]; exact hsame.out k (by omega), hy.out.setCell _ (fun p hp => by have := hAy p hp; show p.block ≠ g; omega), hbr.setCell (p := ⟨g, i, none⟩) hgw _⟩
            case measure => simp [intOf]; omega
      · obtain rfl : i = N := by omega
        have hval : Nt.val S = Nt.val a - Nt.val b := by
          have h1 := hv.out
          have h2 := Ev.out
          have h3 := Hle.out
          rw [Nt.valTo_all S (by have := hS.out; omega), Nt.valTo_all x (by have := eN.out; omega), Nt.valTo_all y (by have := eM.out; omega)] at h1
          have h5 := Nt.val_lt dS.out
          have h6 := Nt.val_nonneg dS.out
          rw [hS.out] at h5
          have h7 : bo = 0 := by
            rcases (show bo = 0 ∨ bo = 1 by omega) with h | h
            · exact h
            · rw [h] at h1; omega
          rw [h7] at h1
          omega
        have Hval := Lib.hid hval
        have Hsl := Lib.hid hk.slr
        clear hval hk
        go_wp2_with fail
        refine (rTrim_any _ _ _ _ _ Hsl.out dS.out (by omega)).mono ?_
        rintro e w4 ⟨A3, n3, c3, rfl, f3, hb4⟩
        have hf := f3.nat
        rw [Hval.out] at hf
        have HF := Lib.hid hf
        clear f3 hf
        go_wp2
        go_ret
        exact ⟨A3, n3, c3, rfl, HF.out.mono hbr.size, hbr.trans (hb4.mono hbr.size)⟩
end Go.Proofs.YtnedhbidmfoegaaGreat
namespace Go.Proofs.YtnedhbidmfoegaaGreat
open Go.RowKit
set_option linter.unusedVariables false
theorem Below.drewN' {B : Nat} {w w' : World} (h : Below B w w') (k : Nat) : Below B w (w'.drewN k) := ⟨h.os, h.tape, h.output, h.size, h.block⟩
set_option maxHeartbeats 2000000 in
theorem rMul_any (A B : Option Addr) (n c m d : Nat) (a b : List Int) (w : World) (ha : SlR .u32 w A n c a) (hb : SlR .u32 w B m d b) (da : Nt.Dig a) (db : Nt.Dig b) (hn : n ≤ 1000000000) (hm : m ≤ 1000000000) :
    Calls Tryz.prog 164 #[.slice A n c, .slice B m d] w fun e w' => ∃ A' n' c', e = .returned (.slice A' n' c') ∧ NatF w w' A' n' c' (Nt.val a * Nt.val b).toNat ∧ Below w.heap.size w w' := by
  have hla := Lib.hid ha.1
  have hlb := Lib.hid hb.1
  have Hda := Lib.hid da
  have Hdb := Lib.hid db
  clear da db
  go_enter Tryz.func164, Tryz.ntmps164
  go_wp2_with (at_make; refine wpList_makeK _ rfl (.tmp 14) (.tmp 14) _ rfl 105 .u32 4 Tryz.underlying22 u32_info _ _ _ _ (n + m + 1) rfl rfl ?L ?C ?b2 ?b3 ?_)
  case L => show _ = _; omega
  case C => show _ = _; omega
  case b2 => omega
  case b3 => unfold maxLen; omega
  intro w2 hk2 hb2' hz2
  have hb2 : Below w.heap.size w w2 := hb2'
  obtain ⟨g, hg⟩ : ∃ g, g = w.heap.size := ⟨_, rfl⟩
  have hgw : w.heap.size ≤ g := by omega
  rw [← hg] at hk2 ⊢
  clear hz2 hg hb2'
  go_wp2
  go_loopw [6] (fun iv wr => ∃ (i : Nat) (S : List Int), i ≤ n ∧ iv = .int .i64 i ∧ KBlk .u32 wr g 105 S ∧ Hid (S.length = n + m + 1) ∧ Hid (Nt.Dig S) ∧ Hid (Nt.valTo S (i + m) = Nt.valTo a i * Nt.val b) ∧ Hid (∀ k, i + m ≤ k → S[k]?.getD 0 = 0) ∧ Below w.heap.size w wr) (fun iv _ => n - (intOf iv).toNat)
  case atStart => exact ⟨0, _, by omega, rfl, hk2, by simp [Hid], Nt.Dig.repl _, by show _ = _; rw [Nt.valTo_zero, Int.zero_mul]; unfold Nt.valTo; rw [List.take_replicate, Nt.val_repl], fun k _ => by simp only [List.getElem?_replicate]; split <;> rfl, hb2⟩
  case round =>
    obtain ⟨i, S, hi, rfl, hk, hS, dS, hv, hz, hbr⟩ := hrel
    clear hk2 hb2
    by_cases hin : i < n
    · have q1 := Hda.out.at i
      have hin' : (i : Int) < n := by omega
      obtain ⟨xi, hxi⟩ : ∃ xi, xi = a[i]?.getD 0 := ⟨_, rfl⟩
      rw [← hxi] at q1
      have Hxi := Lib.hid hxi
      clear hxi
      go_wp2
      obtain ⟨wo, rfl⟩ : ∃ wo : World, wo = wr := ⟨_, rfl⟩
      go_loopw [7, 8] (fun cv jv wr => ∃ (j : Nat) (cy : Int) (T : List Int), j ≤ m ∧ 0 ≤ cy ∧ cy ≤ 4294967295 ∧ cv = .int .u64 cy ∧ jv = .int .i64 j ∧ KBlk .u32 wr g 105 T ∧ Hid (T.length = n + m + 1) ∧ Hid (Nt.Dig T) ∧ Hid (Nt.valTo T (i + j) + cy * Nt.pw (i + j) = Nt.valTo S (i + j) + xi * (Nt.pw i * Nt.valTo b j)) ∧ Hid (∀ k, i + j ≤ k → T[k]?.getD 0 = S[k]?.getD 0) ∧ Below w.heap.size w wr) (fun _ jv _ => m - (intOf jv).toNat)
      case atStart => exact ⟨0, 0, S, by omega, by omega, by omega, rfl, rfl, hk, hS, dS, by simp [Hid, Nt.valTo_zero], fun k _ => rfl, hbr⟩
      case round =>
        obtain ⟨j, cy, T, hj, c0, c1, rfl, rfl, hk, hT, dT, hw, hsame, hbr⟩ := hrel
        by_cases hjY : j < m
        · obtain ⟨b1, o1, rfl, _, hc1⟩ := (ha.below hbr).pos hin
          obtain ⟨b2, o2, rfl, _, hc2⟩ := (hb.below hbr).pos hjY
          rw [← Hxi.out] at hc1
          have q2 := Hdb.out.at j
          have q3 := dT.out.at (i + j)
          have hc3 := hk.cell (i := i + j) (by have := hT.out; omega)
          have q4 := Nt.mul_bd32 q1 q2
          obtain ⟨yj, hyj⟩ : ∃ yj, yj = b[j]?.getD 0 := ⟨_, rfl⟩
          obtain ⟨tj, htj⟩ : ∃ tj, tj = T[i + j]?.getD 0 := ⟨_, rfl⟩
          have Hst := Lib.hid (Nt.mul_step (t := cy + (xi * yj + tj)) (by have := hT.out; omega) hw.out (hsame.out _ (Nat.le_refl _)) (by rw [hyj, htj]; omega))
          rw [← hyj] at hc2 q2 q4
          rw [← htj] at hc3 q3
          have q4a := q4.1
          have q4b := q4.2
          have hjm : (j : Int) < m := by omega
          have hw1 : (i : Int) + (j : Int) < n + m + 1 := by omega
          have hkd : Hid (∀ k, KBlk .u32 (wr.drewN k) g 105 T) := fun k => hk
          have hbd : Hid (∀ k, Below w.heap.size w (wr.drewN k)) := fun k => Below.drewN' hbr k
          clear q4 hyj htj hw
          go_wp2
          go_quiet (fail)
          have hk' := hkd.out nq
          have hbr' := Lib.hid (hbd.out nq)
          generalize wr.drewN nq = wq at *
          have hc3' := hk'.cell (i := i + j) (by have := hT.out; omega)
          have hf3 := hk'.frozen (i + j)
          clear hc1 hc2 hc3 hkd hbd hk hbr
          go_wp2
          go_roundw
          case rel => exact ⟨j + 1, _, _, by omega, by omega, by omega, rfl, by go_num, hk'.set (i + j) _, by have := hT.out; show _ = _; simpa using this, dT.out.set (i + j) (by omega), Hst.out, fun k hk' => by rw [List.getElem?_set_ne (by omega)]; exact hsame.out k (by omega), hbr'.out.setCell (p := ⟨g, i + j, none⟩) hgw _⟩
          case measure => simp [intOf]; omega
        · obtain rfl : j = m := by omega
          have hc3 := hk.cell (i := i + j) (by have := hT.out; omega)
          have hf3 := hk.frozen (i + j)
          have hv' : Hid (Nt.valTo (T.set (i + j) cy) (i + 1 + j) = Nt.valTo a (i + 1) * Nt.val b) := by
            have h1 := hw.out
            have h2 := hv.out
            have h3 := Hxi.out
            show _ = _
            rw [show i + 1 + j = i + j + 1 by omega, Nt.valTo_set T cy (by have := hT.out; omega), Nt.valTo_succ, ← h3]
            rw [Nt.valTo_all b (by have := hlb.out; omega)] at h1
            grind
          have hz' : Hid (∀ k, i + 1 + j ≤ k → (T.set (i + j) cy)[k]?.getD 0 = 0) := fun k hk' => by
            rw [List.getElem?_set_ne (by omega), hsame.out k (by omega)]
            exact hz.out k (by omega)
          clear hv hz hw hsame
          go_wp2
          go_roundw
          case rel => exact ⟨i + 1, _, by omega, by go_num, hk.set (i + j) _, by have := hT.out; show _ = _; simpa using this, dT.out.set (i + j) (by omega), hv', hz', hbr.setCell (p := ⟨g, i + j, none⟩) hgw _⟩
          case measure => simp [intOf]; omega
    · obtain rfl : i = n := by omega
      have hval : Nt.val S = Nt.val a * Nt.val b := by
        have h1 := hv.out
        have h2 := hz.out (i + m) (Nat.le_refl _)
        rw [← Nt.valTo_all S (n := i + m + 1) (by have := hS.out; omega), Nt.valTo_succ, h1, h2, Nt.valTo_all a (by have := hla.out; omega)]; simp
      have Hval := Lib.hid hval
      have Hsl := Lib.hid (hk.slr_all (n := i + m + 1) (c := i + m + 1) hS.out (by omega) (by unfold maxLen; omega))
      clear hval hk
      go_wp2_with fail
      refine (rTrim_any _ _ _ _ _ Hsl.out dS.out (by omega)).mono ?_
      rintro e w4 ⟨A3, n3, c3, rfl, f3, hb4⟩
      have hf := f3.nat
      rw [Hval.out] at hf
      have HF := Lib.hid hf
      clear f3 hf
      go_wp2
      go_ret
      exact ⟨A3, n3, c3, rfl, HF.out.mono hbr.size, hbr.trans (hb4.mono hbr.size)⟩
/-- What small answers. -/
def SmF (w0 w : World) (e : Ending) (a y : Int) : Prop := ∃ A1 n1 c1, e = .returned (.tuple #[.slice A1 n1 c1, .int .u32 (a % y)]) ∧ NatF w0 w A1 n1 c1 (a / y).toNat ∧ Below w0.heap.size w0 w
set_option maxHeartbeats 2000000 in
theorem rsmall_any (A : Option Addr) (n c : Nat) (a : List Int) (y : Int) (w : World) (ha : SlR .u32 w A n c a) (da : Nt.Dig a) (hy : 0 < y) (hy1 : y < 4294967296) (hn : n ≤ 1000000000) :
    Calls Tryz.prog 201 #[.slice A n c, .int .u32 y] w fun e w' => SmF w w' e (Nt.val a) y := by
  have hlen : Hid (a.length = n) := ha.1
  have Hda := Lib.hid da
  have hyb : (y == 0) = false := by rw [beq_eq_false_iff_ne]; omega
  clear da
  go_enter Tryz.func201, Tryz.ntmps201
  go_wp2_with (at_make; refine wpList_makeK _ rfl (.tmp 10) (.tmp 10) _ rfl 105 .u32 4 Tryz.underlying22 u32_info _ _ _ _ n rfl rfl ?L ?C ?b2 ?b3 ?_)
  case L => rfl
  case C => rfl
  case b2 => omega
  case b3 => unfold maxLen; omega
  intro w2 hk2 hb2' hz2
  have hb2 : Below w.heap.size w w2 := hb2'
  obtain ⟨g, hg⟩ : ∃ g, g = w.heap.size := ⟨_, rfl⟩
  have hgw : w.heap.size ≤ g := by omega
  rw [← hg] at hk2 ⊢
  clear hz2 hg hb2'
  go_wp2
  go_loopw [7, 8] (fun rv iv wr => ∃ (i : Nat) (r : Int) (Q : List Int), i ≤ n ∧ 0 ≤ r ∧ r < y ∧ rv = .int .u64 r ∧ iv = .int .i64 ((i : Int) - 1) ∧ KBlk .u32 wr g 105 Q ∧ Hid (Q.length = n) ∧ Hid (Nt.Dig Q) ∧ Hid (Nt.val (a.drop i) = Nt.val (Q.drop i) * y + r) ∧ Below w.heap.size w wr) (fun _ iv _ => (intOf iv + 1).toNat)
  case atStart => exact ⟨n, 0, _, by omega, by omega, by omega, rfl, rfl, hk2, by simp [Hid], Nt.Dig.repl _, by have := hlen.out; show _ = _; rw [Nt.val_drop_all (by omega), Nt.val_drop_all (by simp)]; simp, hb2⟩
  case round =>
    obtain ⟨i, r, Q, hin, r0, r1, rfl, rfl, hk, hQ, dQ, hv, hbr⟩ := hrel
    clear hk2 hb2
    rcases i with _ | i
    · have hv0 := hv.out
      simp only [List.drop_zero] at hv0
      have hdm := Nt.div_of hy hv0 r0 r1
      have Hsl := Lib.hid (hk.slr_all (n := n) (c := n) hQ.out (by omega) (by unfold maxLen; omega))
      have Hdm := Lib.hid hdm
      have r2 : r < 4294967296 := by omega
      clear hv hv0 hdm hk
      go_wp2_with fail
      refine (rTrim_any _ _ _ _ _ Hsl.out dQ.out (by omega)).mono ?_
      rintro e w4 ⟨A3, n3, c3, rfl, f3, hb4⟩
      have hf := f3.nat
      rw [← Hdm.out.1] at hf
      have HF := Lib.hid hf
      clear f3 hf
      go_wp2
      go_ret2
      unfold SmF
      rw [Hdm.out.2]
      exact ⟨A3, n3, c3, rfl, HF.out.mono hbr.size, hbr.trans (hb4.mono hbr.size)⟩
    · obtain ⟨b1, o1, rfl, hlt, hc1⟩ := (ha.below hbr).pos (i := i) (by omega)
      have hcq := hk.cell (i := i) (by have := hQ.out; omega)
      have hfq := hk.frozen i
      have hx := Hda.out.at i
      obtain ⟨x, hxx⟩ : ∃ x, x = a[i]?.getD 0 := ⟨_, rfl⟩
      rw [← hxx] at hc1 hx
      have hbd := Nt.small_bd hy r0 r1 hx.1 hx.2 rfl
      have Hst := Lib.hid (Nt.small_step (t := r * 4294967296 + x) hy (by have := hQ.out; omega) (by have := hlen.out; omega) hv.out (by rw [hxx]))
      have or1 := Nt.or_top r0 (by omega) hx.1 hx.2
      have hbd0 := hbd.1
      have hbd1 := hbd.2.1
      have hin' : (i : Int) < n := by omega
      clear hv hxx
      go_wp2
      go_roundw
      case rel => exact ⟨i, _, _, by omega, hbd.2.2.1, hbd.2.2.2, rfl, by go_num, hk.set i _, by have := hQ.out; show _ = _; simpa using this, dQ.out.set i ⟨hbd0, hbd1⟩, Hst.out, hbr.setCell (p := ⟨g, i, none⟩) hgw _⟩
      case measure => simp [intOf]
end Go.Proofs.YtnedhbidmfoegaaGreat
namespace Go.Proofs.YtnedhbidmfoegaaGreat
open Go.RowKit
set_option linter.unusedVariables false
namespace Nt
/-- The least n for which v is less than 2^n. -/
def bitl (v : Nat) : Nat := if v = 0 then 0 else v.log2 + 1
theorem bitl_half {v : Nat} (h : 0 < v) : bitl v = bitl (v / 2) + 1 := by
  unfold bitl
  rw [if_neg (by omega)]
  rw [Nat.log2_def]
  by_cases h2 : 2 ≤ v
  · rw [if_pos h2, if_neg (by omega)]
  · rw [if_neg h2, if_pos (by omega)]
theorem bitl_lt (v : Nat) : v < 2 ^ bitl v := by
  unfold bitl
  split
  · rename_i h; rw [h]; exact Nat.pow_pos (by omega)
  · exact Nat.lt_log2_self
theorem bitl_le {v : Nat} (h : 0 < v) : 2 ^ (bitl v - 1) ≤ v := by
  unfold bitl
  rw [if_neg (by omega)]
  exact Nat.log2_self_le (by omega)
theorem bitl_unique {v k : Nat} (hk : 0 < k) (h1 : 2 ^ (k - 1) ≤ v) (h2 : v < 2 ^ k) : bitl v = k := by
  have hv : 0 < v := by have := Nat.pow_pos (n := k - 1) (show 0 < 2 by omega); omega
  have a1 := bitl_lt v
  have a2 := bitl_le hv
  have a3 : bitl v ≠ 0 := by unfold bitl; rw [if_neg (by omega)]; omega
  have b1 : 2 ^ (k - 1) < 2 ^ bitl v := by omega
  have b2 : 2 ^ (bitl v - 1) < 2 ^ k := by omega
  have c1 := (Nat.pow_lt_pow_iff_right (show 1 < 2 by omega)).1 b1
  have c2 := (Nat.pow_lt_pow_iff_right (show 1 < 2 by omega)).1 b2
  omega
theorem pw_two (k : Nat) : pw k = ((2 ^ (32 * k) : Nat) : Int) := by
  induction k with
  | zero => simp [pw]
  | succ k ih => rw [pw, ih, show 32 * (k + 1) = 32 + 32 * k by omega, Nat.pow_add, Int.natCast_mul]; rfl
theorem bitl_digits {v k t : Nat} (hl : (digits v).length = k + 1) (ht : (digits v)[k]?.getD 0 = (t : Int)) (h0 : 0 < t) : bitl v = 32 * k + bitl t := by
  have e : (v : Int) = valTo (digits v) k + pw k * t := by
    have h := digits_val v
    rw [← valTo_all (digits v) (n := k + 1) (by omega), valTo_succ, ht] at h
    exact h.symm
  have a0 := valTo_nonneg (digits_dig v) k
  have a1 := valTo_lt (digits_dig v) k
  rw [pw_two] at *
  generalize valTo (digits v) k = r at *
  have e2 : v = r.toNat + 2 ^ (32 * k) * t := by
    have : ((r.toNat + 2 ^ (32 * k) * t : Nat) : Int) = r + ((2 ^ (32 * k) : Nat) : Int) * t := by rw [Int.natCast_add, Int.natCast_mul]; omega
    omega
  have b1 := bitl_lt t
  have b2 := bitl_le h0
  have a3 : bitl t ≠ 0 := by unfold bitl; rw [if_neg (by omega)]; omega
  apply bitl_unique (by omega)
  · rw [e2, show 32 * k + bitl t - 1 = 32 * k + (bitl t - 1) by omega, Nat.pow_add]
    have := Nat.mul_le_mul_left (2 ^ (32 * k)) b2
    omega
  · rw [e2, Nat.pow_add]
    have : 2 ^ (32 * k) * (t + 1) ≤ 2 ^ (32 * k) * 2 ^ bitl t := Nat.mul_le_mul_left _ b1
    rw [Nat.mul_add] at this
    omega
theorem p2_pw (s : Nat) : (2 : Int) ^ s = 2 ^ (s % 32) * pw (s / 32) := by
  rw [pw_two]
  have : (2 : Nat) ^ s = 2 ^ (s % 32) * 2 ^ (32 * (s / 32)) := by rw [← Nat.pow_add]; congr 1; omega
  have h2 := congrArg (fun z : Nat => (z : Int)) this
  simpa using h2
theorem shl_snoc {S x : List Int} {i q : Nat} {cy z t : Int} (hl : S.length = q + i) (h : val S + cy * pw (q + i) = valTo x i * z * pw q) (ht : t = x[i]?.getD 0 * z + cy) :
    val (S ++ [t % 4294967296]) + (t / 4294967296) * pw (q + (i + 1)) = valTo x (i + 1) * z * pw q := by
  rw [snoc_val, valTo_succ, hl, ← Nat.add_assoc, pw]
  have e := Int.mul_ediv_add_emod t 4294967296
  generalize t % 4294967296 = r at *
  generalize t / 4294967296 = u at *
  rw [pw_add] at *
  grind
end Nt
set_option maxHeartbeats 1000000 in
theorem rBitLen_any (A : Option Addr) (n c : Nat) (a : List Int) (w : World) (ha : SlR .u32 w A n c a) (da : Nt.Dig a) (hn : n ≤ 1000000000) :
    Calls Tryz.prog 202 #[.slice A n c] w fun e w' => e = .returned (.int .i64 (Nt.bitl (Nt.val a).toNat)) ∧ Below w.heap.size w w' := by
  have lx : Hid ((Nt.digits (Nt.val a).toNat).length ≤ n) := by rw [← Nt.strip_eq da, ← ha.1]; exact Nt.strip_length_le a
  go_enter Tryz.func202, Tryz.ntmps202
  go_wp2_with fail
  refine (rTrim_any _ _ _ _ _ ha da (by omega)).mono ?_
  rintro e w1 ⟨A1, N, c1, rfl, f1, hb1⟩
  have hx := f1.nat.2.1
  have eN := Lib.hid f1.1
  have hN : N ≤ 1000000000 := by have := f1.1; have := lx.out; omega
  clear f1 ha da lx
  obtain ⟨X, hX⟩ : ∃ X, X = (Nt.val a).toNat := ⟨_, rfl⟩
  have HX := Lib.hid hX
  rw [← hX] at hx eN
  clear hX
  rcases N with _ | k
  · have h0 : Hid (Nt.bitl (Nt.val a).toNat = 0) := by
      have e1 := eN.out
      show _ = _
      rw [← HX.out]
      have : X = 0 := by
        rcases Nat.eq_zero_or_pos X with h | h
        · exact h
        · have := Nt.digits_length_pos h; omega
      rw [this]; rfl
    go_wp2
    go_ret
    exact ⟨by rw [h0.out]; rfl, hb1⟩
  · obtain ⟨b, o, rfl, _, hc⟩ := hx.pos (i := k) (by omega)
    have hcm := hx.2.1
    have ht := (Nt.digits_dig X).at k
    have hne := Nt.norm_last (k := k) (Nt.digits_norm X) eN.out.symm
    obtain ⟨t, ht2⟩ : ∃ t : Nat, (Nt.digits X)[k]?.getD 0 = (t : Int) := ⟨((Nt.digits X)[k]?.getD 0).toNat, by omega⟩
    have hfin := Nt.bitl_digits eN.out.symm ht2 (by omega)
    rw [ht2] at hc hne ht
    have Hfin : Hid (Nt.bitl (Nt.val a).toNat = 32 * k + Nt.bitl t) := by show _ = _; rw [← HX.out]; exact hfin
    have hkb : ((k : Int) + 1 == 0) = false := by rw [beq_eq_false_iff_ne]; omega
    clear hfin ht2 hx
    go_wp2
    have hb32 : Nt.bitl t ≤ 32 := by
      have h1 := Nt.bitl_le (v := t) (by omega)
      have h3 : 2 ^ (Nt.bitl t - 1) < 2 ^ 32 := by omega
      have := (Nat.pow_lt_pow_iff_right (show 1 < 2 by omega)).1 h3
      omega
    go_loop [3, 4] (fun nv xv => ∃ (x j : Nat), x < 4294967296 ∧ j ≤ 100000000000 ∧ nv = .int .i64 j ∧ xv = .int .u32 x ∧ Hid (j + Nt.bitl x = 32 * k + Nt.bitl t)) (fun _ xv => (intOf xv).toNat)
    case atStart => exact ⟨t, 32 * k, by omega, by omega, by go_num, rfl, rfl⟩
    case round =>
      obtain ⟨x, j, hx, hj, rfl, rfl, hs⟩ := hrel
      rcases Nat.eq_zero_or_pos x with h | h
      · subst h
        have hv : Hid (Nt.bitl (Nt.val a).toNat = j) := by show _ = _; rw [Hfin.out, ← hs.out]; rfl
        go_wp2
        go_ret
        exact ⟨by rw [hv.out]; rfl, hb1⟩
      · have hs' : Hid (j + 1 + Nt.bitl (x / 2) = 32 * k + Nt.bitl t) := by have := hs.out; rw [Nt.bitl_half h] at this; show _ = _; omega
        have hj2 : j + 1 ≤ 100000000000 := by have := hs'.out; omega
        go_wp2
        go_round
        case rel => exact ⟨x / 2, j + 1, by omega, hj2, by go_num, by go_num, hs'⟩
        case measure => simp [intOf]; omega
set_option maxHeartbeats 2000000 in
theorem rShift_pos (A : Option Addr) (n c s : Nat) (a : List Int) (w : World) (ha : SlR .u32 w A n c a) (da : Nt.Dig a) (hn : n ≤ 1000000000) (hs : s ≤ 65536) :
    Calls Tryz.prog 203 #[.slice A n c, .int .i64 s] w fun e w' => ∃ A' n' c', e = .returned (.slice A' n' c') ∧ OwnF w w' A' n' c' (Nt.val a * 2 ^ s).toNat ∧ Below w.heap.size w w' := by
  have lx : Hid ((Nt.digits (Nt.val a).toNat).length ≤ n) := by rw [← Nt.strip_eq da, ← ha.1]; exact Nt.strip_length_le a
  have a0 := Nt.val_nonneg da
  have hsd : decide (65536 < (s : Int)) = false := by simp; omega
  have hsd2 : decide ((s : Int) < 0) = false := by simp
  go_enter Tryz.func203, Tryz.ntmps203
  go_wp2_with fail
  refine (rTrim_any _ _ _ _ _ ha da (by omega)).mono ?_
  rintro e w1 ⟨A1, N, c1, rfl, f1, hb1⟩
  have hx := f1.nat.2.1
  have eN := Lib.hid f1.1
  have hN : N ≤ 1000000000 := by have := f1.1; have := lx.out; omega
  clear f1 ha da lx
  obtain ⟨X, hX⟩ : ∃ X, X = (Nt.val a).toNat := ⟨_, rfl⟩
  have HX : Hid (Nt.val a = Nt.val (Nt.digits X)) := by show _ = _; rw [Nt.digits_val, hX]; omega
  rw [← hX] at hx eN
  clear hX a0
  have dx := Lib.hid (Nt.digits_dig X)
  generalize Nt.digits X = x at *
  rcases Nat.eq_zero_or_pos N with h0 | h0
  · subst h0
    have hz : Hid ((Nt.val a * 2 ^ s).toNat = 0) := by
      have e1 : x = [] := List.eq_nil_of_length_eq_zero eN.out.symm
      show _ = _
      rw [HX.out, e1]; simp [Nt.val]
    go_wp2
    go_ret
    refine ⟨none, 0, 0, rfl, ?_, hb1⟩
    rw [hz.out]
    exact ⟨by rw [Nt.digits_zero]; rfl, by rw [Nt.digits_zero]; exact ⟨rfl, rfl, .inl ⟨rfl, rfl⟩⟩⟩
  have hN0 : ((N : Int) == 0) = false := by rw [beq_eq_false_iff_ne]; omega
  obtain ⟨q, hq1, hq2⟩ : ∃ q, 32 * q ≤ s ∧ s < 32 * q + 32 := ⟨s / 32, by omega, by omega⟩
  go_wp2_with (at_make; refine wpList_makeK _ rfl (.tmp 68) (.tmp 68) _ rfl 105 .u32 4 Tryz.underlying22 u32_info _ _ _ _ q rfl rfl ?L ?C ?b2 ?b3 ?_)
  case L => show _ = _; omega
  case C => show _ = _; omega
  case b2 => omega
  case b3 => unfold maxLen; omega
  intro w2 hk2 hb2 hz2
  have hB2 : Below w.heap.size w w2 := hb1.trans (hb2.mono hb1.size)
  have hx2 := hx.below hb2
  have hk : OwnK .u32 w2 w1.heap.size 105 (some ⟨w1.heap.size, 0, none⟩) q q (List.replicate q 0) := hk2.own (Nat.le_refl _) (by simp) (by unfold maxLen; omega)
  have hr32 : s % 32 < 32 := by omega
  have hqs : Hid (q = s / 32) := by show _ = _; omega
  have hw1 := hb1.size
  have hxw := Lib.hid hx
  have HB2 := Lib.hid hb2
  clear hk2 hz2 hb2 hx
  go_wp2
  go_loopw [8, 9, 10] (fun sv cv iv wr => ∃ (i : Nat) (cy : Int) (S : List Int) (A2 : Option Addr) (c2 : Nat), i ≤ N ∧ 0 ≤ cy ∧ Hid (cy < 2 ^ (s % 32)) ∧ sv = .slice A2 (q + i) c2 ∧ cv = .int .u64 cy ∧ iv = .int .i64 i ∧ OwnK .u32 wr w1.heap.size 105 A2 (q + i) c2 S ∧ Hid (Nt.Dig S) ∧ Hid (Nt.val S + cy * Nt.pw (q + i) = Nt.valTo x i * 2 ^ (s % 32) * Nt.pw q) ∧ Hid (SlR .u32 wr A1 N c1 x) ∧ Below w1.heap.size w1 wr) (fun _ _ iv _ => N - (intOf iv).toNat)
  case atStart => exact ⟨0, 0, _, _, _, by omega, by omega, Nt.p2_pos _, rfl, rfl, rfl, hk, Nt.Dig.repl _, by show _ = _; rw [Nt.valTo_zero, Nt.val_repl]; simp, hx2, HB2.out⟩
  case round =>
    clear hk hx2
    obtain ⟨i, cy, S, A2, c2, hi, cy0, cy1, rfl, rfl, rfl, hk, dS, hv, hx, hbr⟩ := hrel
    have hSl := Lib.hid hk.1
    by_cases hin : i < N
    · obtain ⟨b1, o1, rfl, _, hc1⟩ := hx.out.pos hin
      have q1 := dx.out.at i
      obtain ⟨xi, hxi⟩ : ∃ xi, xi = x[i]?.getD 0 := ⟨_, rfl⟩
      rw [← hxi] at hc1 q1
      have Hst := Lib.hid (Nt.shl_snoc (t := xi * 2 ^ (s % 32) + cy) hSl.out hv.out (by rw [hxi]))
      have hin' : (i : Int) < N := by omega
      have hx1 : Hid (SlR .u32 w1 (some ⟨b1, o1, none⟩) N c1 x) := hxw.out
      clear hxi
      have hl := Nt.hi_lift hr32 q1.1 q1.2
      have hl1 := hl.1
      have hl2 := hl.2.1
      have hp := Nt.p2_le hr32
      have cy2 : cy < 2147483648 := by have := cy1.out; omega
      have or1 : bits .or .u64 cy (xi * 2 ^ (s % 32)) = xi * 2 ^ (s % 32) + cy := by
        have hc : bits .or .u64 cy (xi * 2 ^ (s % 32)) = bits .or .u64 (xi * 2 ^ (s % 32)) cy := by simp only [bits, BitVec.or_comm]
        rw [hc]
        exact Nt.or_add (by omega) hl1 (Int.mul_emod_left _ _) (by omega) cy0 cy1.out
      have hcy' : Hid ((xi * 2 ^ (s % 32) + cy) / 4294967296 < 2 ^ (s % 32)) := by
        have k1 : xi * 2 ^ (s % 32) ≤ 4294967295 * 2 ^ (s % 32) := Int.mul_le_mul_of_nonneg_right (by omega) (by have := Nt.p2_pos (s % 32); omega)
        have k2 := cy1.out
        show _ < _
        omega
      have hnew : Hid (SlR .u32 (wr.alloc (.cells #[.int .u32 ((xi * 2 ^ (s % 32) + cy) % 4294967296)] 105)) (some ⟨wr.heap.size, 0, none⟩) 1 1 [(xi * 2 ^ (s % 32) + cy) % 4294967296]) := (KBlk.new wr 105 [(xi * 2 ^ (s % 32) + cy) % 4294967296]).slr_all rfl (Nat.le_refl _) (by decide)
      clear hl
      go_wp2_with (at_builtin; refine wpList_appendK _ rfl (.tmp 87) (.tmp 90) _ rfl 105 .u32 4 Tryz.underlying22 u32_info w1.heap.size A2 (q + i) c2 S rfl ?own (some ⟨wr.heap.size, 0, none⟩) 1 1 [(xi * 2 ^ (s % 32) + cy) % 4294967296] rfl ?slr ?h63 ?hby ?hbase ?_)
      case own => exact hk.below ((Below.refl _ _).alloc (Nat.le_refl _) _)
      case slr => exact hnew.out
      case h63 => unfold maxLen; omega
      case hby => omega
      case hbase => have := hbr.size; simp; omega
      intro A3 c3 w3 ho3 hb3
      have Ho : Hid (OwnK .u32 w3 w1.heap.size 105 A3 (q + (i + 1)) c3 (S ++ [(xi * 2 ^ (s % 32) + cy) % 4294967296])) := ho3
      have Hx3 : Hid (SlR .u32 w3 (some ⟨b1, o1, none⟩) N c1 x) := by
        have hxa := hx1.out
        exact hxa.below ((hbr.alloc hbr.size _).trans hb3)
      have HB : Hid (Below w1.heap.size w1 w3) := (hbr.alloc hbr.size _).trans hb3
      clear hnew ho3 hb3 hk hv hx
      go_wp2
      go_roundw
      case rel => exact ⟨i + 1, _, _, A3, c3, by omega, by omega, hcy', by rw [Nat.add_assoc], rfl, by go_num, Ho.out, dS.out.snoc (by omega), Hst.out, Hx3, HB.out⟩
      case measure => simp [intOf]; omega
    · obtain rfl : i = N := by omega
      have hp := Nt.p2_le hr32
      have cy2 : cy < 2147483648 := by have := cy1.out; omega
      have hval : Nt.val (S ++ [cy]) = Nt.val a * 2 ^ s := by
        have h1 := hv.out
        rw [Nt.valTo_all x (by have := eN.out; omega)] at h1
        rw [Nt.snoc_val, hSl.out, Int.mul_comm (Nt.pw (q + i)), h1, HX.out, Nt.p2_pw s, hqs.out, Int.mul_assoc]
      have Hval := Lib.hid hval
      have dS2 := Lib.hid (dS.out.snoc (x := cy) (by omega))
      have hnew : Hid (SlR .u32 (wr.alloc (.cells #[.int .u32 cy] 105)) (some ⟨wr.heap.size, 0, none⟩) 1 1 [cy]) := (KBlk.new wr 105 [cy]).slr_all rfl (Nat.le_refl _) (by decide)
      clear hval
      go_wp2_with (at_builtin; refine wpList_appendK _ rfl (.tmp 94) (.tmp 97) _ rfl 105 .u32 4 Tryz.underlying22 u32_info w1.heap.size A2 (q + i) c2 S rfl ?own2 (some ⟨wr.heap.size, 0, none⟩) 1 1 [cy] rfl ?slr2 ?h632 ?hby2 ?hbase2 ?_)
      case own2 => exact hk.below ((Below.refl _ _).alloc (Nat.le_refl _) _)
      case slr2 => exact hnew.out
      case h632 => unfold maxLen; omega
      case hby2 => omega
      case hbase2 => have := hbr.size; simp; omega
      intro A3 c3 w3 ho3 hb3
      have HB : Hid (Below w1.heap.size w1 w3) := (hbr.alloc hbr.size _).trans hb3
      have Hs := Lib.hid ho3.slr
      clear hnew ho3 hb3 hk hv
      go_wp2_with fail
      refine (rTrim_any _ _ _ _ _ Hs.out dS2.out (by omega)).mono ?_
      rintro e w4 ⟨A4, n4, c4, rfl, f4, hb4⟩
      rw [Hval.out] at f4
      have HF := Lib.hid f4
      clear f4
      go_wp2
      go_ret
      have hB3 : Below w.heap.size w w3 := hb1.trans (HB.out.mono hb1.size)
      exact ⟨A4, n4, c4, rfl, ⟨HF.out.1, HF.out.2.mono hB3.size⟩, hB3.trans (hb4.mono hB3.size)⟩
end Go.Proofs.YtnedhbidmfoegaaGreat
namespace Go.Proofs.YtnedhbidmfoegaaGreat
open Go.RowKit
set_option linter.unusedVariables false
namespace Nt
theorem shr_dig {x y : Int} {s : Nat} (h : s < 32) (x0 : 0 ≤ x) (x1 : x < 4294967296) (y0 : 0 ≤ y) (y1 : y < 4294967296) :
    (x + y * 4294967296) / 2 ^ s % 4294967296 = x / 2 ^ s + y % 2 ^ s * 2 ^ (32 - s) ∧ 0 ≤ x / 2 ^ s + y % 2 ^ s * 2 ^ (32 - s) ∧ x / 2 ^ s + y % 2 ^ s * 2 ^ (32 - s) < 4294967296 := by
  have hs := p2_split h
  have p0 := p2_pos s
  have m0 := Int.emod_nonneg y (b := 2 ^ s) (by omega)
  have m1 := Int.emod_lt_of_pos y p0
  obtain ⟨c0, c1, d0, d1, d2, _⟩ := low_dig h x0 x1 m0 m1
  have e1 : (x + y * 4294967296) / 2 ^ s = x / 2 ^ s + y * 2 ^ (32 - s) := by
    rw [← hs, Int.mul_comm (2 ^ s), ← Int.mul_assoc, Int.add_mul_ediv_right _ _ (by omega)]
  have e2 := (low_hi h y0 y1).2.2
  refine ⟨?_, by omega, d2⟩
  rw [e1]
  generalize y * 2 ^ (32 - s) = z at *
  generalize y % 2 ^ s * 2 ^ (32 - s) = u at *
  omega
theorem shr_snoc {S x : List Int} {i s : Nat} {c0 : Int} (h : s < 32) (hl : S.length = i) (hv : 2 ^ s * val S = valTo x i - c0 + x[i]?.getD 0 % 2 ^ s * pw i) :
    2 ^ s * val (S ++ [x[i]?.getD 0 / 2 ^ s + x[i + 1]?.getD 0 % 2 ^ s * 2 ^ (32 - s)]) = valTo x (i + 1) - c0 + x[i + 1]?.getD 0 % 2 ^ s * pw (i + 1) := by
  rw [snoc_val, valTo_succ, hl, pw]
  have e := Int.mul_ediv_add_emod (x[i]?.getD 0) (2 ^ s)
  have hs := p2_split h
  generalize x[i]?.getD 0 / 2 ^ s = q at *
  generalize x[i]?.getD 0 % 2 ^ s = r at *
  generalize x[i + 1]?.getD 0 % 2 ^ s = r' at *
  generalize (2 : Int) ^ s = p at *
  generalize (2 : Int) ^ (32 - s) = z at *
  grind
end Nt
set_option maxHeartbeats 2000000 in
theorem rShift_neg (A : Option Addr) (n c s : Nat) (a : List Int) (w : World) (ha : SlR .u32 w A n c a) (da : Nt.Dig a) (hn : n ≤ 1000000000) (hs0 : 0 < s) (hs : s < 32) :
    Calls Tryz.prog 203 #[.slice A n c, .int .i64 (-(s : Int))] w fun e w' => ∃ A' n' c', e = .returned (.slice A' n' c') ∧ OwnF w w' A' n' c' (Nt.val a / 2 ^ s).toNat ∧ Below w.heap.size w w' := by
  have lx : Hid ((Nt.digits (Nt.val a).toNat).length ≤ n) := by rw [← Nt.strip_eq da, ← ha.1]; exact Nt.strip_length_le a
  have a0 := Nt.val_nonneg da
  have hsd : decide (65536 < -(s : Int)) = false := by rw [decide_eq_false_iff_not]; omega
  have hsd2 : decide (-(s : Int) < 0) = true := by simp; omega
  have hdv : (s : Int) / 32 = 0 := by omega
  have hmd : (s : Int) % 32 = s := by omega
  have hmd2 : s % 32 = s := by omega
  go_enter Tryz.func203, Tryz.ntmps203
  go_wp2_with fail
  refine (rTrim_any _ _ _ _ _ ha da (by omega)).mono ?_
  rintro e w1 ⟨A1, N, c1, rfl, f1, hb1⟩
  have hx := f1.nat.2.1
  have eN := Lib.hid f1.1
  have hN : N ≤ 1000000000 := by have := f1.1; have := lx.out; omega
  clear f1 ha da lx
  obtain ⟨X, hX⟩ : ∃ X, X = (Nt.val a).toNat := ⟨_, rfl⟩
  have HX : Hid (Nt.val a = Nt.val (Nt.digits X)) := by show _ = _; rw [Nt.digits_val, hX]; omega
  rw [← hX] at hx eN
  clear hX a0
  have dx := Lib.hid (Nt.digits_dig X)
  generalize Nt.digits X = x at *
  rcases Nat.eq_zero_or_pos N with h0 | h0
  · subst h0
    have hz : Hid ((Nt.val a / 2 ^ s).toNat = 0) := by
      have e1 : x = [] := List.eq_nil_of_length_eq_zero eN.out.symm
      show _ = _
      rw [HX.out, e1]; simp [Nt.val]
    go_wp2
    go_ret
    refine ⟨none, 0, 0, rfl, ?_, hb1⟩
    rw [hz.out]
    exact ⟨by rw [Nt.digits_zero]; rfl, by rw [Nt.digits_zero]; exact ⟨rfl, rfl, .inl ⟨rfl, rfl⟩⟩⟩
  have hN0 : ((N : Int) == 0) = false := by rw [beq_eq_false_iff_ne]; omega
  have hlt : decide (-(s : Int) < -32 * (N : Int)) = false := by simp; omega
  have hlt2 : decide (-(s : Int) < -(32 * (N : Int))) = false := by simp; omega
  have hxw := Lib.hid hx
  clear hx
  go_wp2
  go_loopw [5, 6] (fun sv iv wr => ∃ (i : Nat) (S : List Int) (A2 : Option Addr) (c2 : Nat), i ≤ N ∧ sv = .slice A2 i c2 ∧ iv = .int .i64 i ∧ OwnK .u32 wr w1.heap.size 105 A2 i c2 S ∧ Hid (Nt.Dig S) ∧ Hid (2 ^ s * Nt.val S = Nt.valTo x i - x[0]?.getD 0 % 2 ^ s + x[i]?.getD 0 % 2 ^ s * Nt.pw i) ∧ Below w1.heap.size w1 wr) (fun _ iv _ => N - (intOf iv).toNat)
  case atStart => exact ⟨0, [], none, 0, by omega, rfl, rfl, ⟨rfl, rfl, .inl ⟨rfl, rfl⟩⟩, Nt.Dig.nil, by show _ = _; simp [Nt.valTo_zero, Nt.val, Nt.pw]; omega, Below.refl _ _⟩
  case round =>
    obtain ⟨i, S, A2, c2, hi, rfl, rfl, hk, dS, hv, hbr⟩ := hrel
    have hSl := Lib.hid hk.1
    by_cases hin : i < N
    · obtain ⟨b1, o1, rfl, _, hc1⟩ := (hxw.out.below hbr).pos hin
      have q1 := dx.out.at i
      have q2 := dx.out.at (i + 1)
      have Hst := Lib.hid (Nt.shr_snoc hs hSl.out hv.out)
      have Hdg := Lib.hid (Nt.shr_dig hs q1.1 q1.2 q2.1 q2.2)
      have hin' : (i : Int) < N := by omega
      by_cases hin2 : i + 1 < N
      · obtain ⟨b2, o2, he2, _, hc2⟩ := (hxw.out.below hbr).pos hin2
        obtain ⟨rfl, rfl⟩ : b1 = b2 ∧ o1 = o2 := by cases he2; exact ⟨rfl, rfl⟩
        clear he2
        have hin2' : (i : Int) + 1 < N := by omega
        have or1 := Nt.or_swap q1.1 q1.2 q2.1 q2.2
        have Hd := Lib.hid (Hdg.out.1)
        have hnew : Hid (SlR .u32 (wr.alloc (.cells #[.int .u32 ((x[i]?.getD 0 + x[i + 1]?.getD 0 * 4294967296) / 2 ^ s % 4294967296)] 105)) (some ⟨wr.heap.size, 0, none⟩) 1 1 [(x[i]?.getD 0 + x[i + 1]?.getD 0 * 4294967296) / 2 ^ s % 4294967296]) := (KBlk.new wr 105 [(x[i]?.getD 0 + x[i + 1]?.getD 0 * 4294967296) / 2 ^ s % 4294967296]).slr_all rfl (Nat.le_refl _) (by decide)
        go_wp2_with (at_builtin; refine wpList_appendK _ rfl (.tmp 56) (.tmp 63) _ rfl 105 .u32 4 Tryz.underlying22 u32_info w1.heap.size A2 i c2 S rfl ?own (some ⟨wr.heap.size, 0, none⟩) 1 1 [(x[i]?.getD 0 + x[i + 1]?.getD 0 * 4294967296) / 2 ^ s % 4294967296] rfl ?slr ?h63 ?hby ?hbase ?_)
        case own => exact hk.below ((Below.refl _ _).alloc (Nat.le_refl _) _)
        case slr => exact hnew.out
        case h63 => unfold maxLen; omega
        case hby => omega
        case hbase => have := hbr.size; simp; omega
        intro A3 c3 w3 ho3 hb3
        rw [Hd.out] at ho3
        have Ho := Lib.hid ho3
        have HB : Hid (Below w1.heap.size w1 w3) := (hbr.alloc hbr.size _).trans hb3
        clear hnew ho3 hb3 hk hv
        go_wp2
        go_roundw
        case rel => exact ⟨i + 1, _, A3, c3, by omega, rfl, by go_num, Ho.out, dS.out.snoc Hdg.out.2, Hst.out, HB.out⟩
        case measure => simp [intOf]; omega
      · have hin2' : ¬ (i : Int) + 1 < N := by omega
        have e2 : x[i + 1]?.getD 0 = 0 := by rw [List.getElem?_eq_none (by have := eN.out; omega)]; rfl
        have p0 := Nt.p2_pos s
        have z0 : 0 ≤ x[i]?.getD 0 / 2 ^ s := Int.ediv_nonneg q1.1 (by omega)
        have z1 : x[i]?.getD 0 / 2 ^ s < 4294967296 := by have := Hdg.out; rw [e2] at this; simp at this; omega
        have He2 : Hid (x[i]?.getD 0 / 2 ^ s = x[i]?.getD 0 / 2 ^ s + x[i + 1]?.getD 0 % 2 ^ s * 2 ^ (32 - s)) := by show _ = _; rw [e2]; simp
        clear e2
        have Hd := Lib.hid (He2.out)
        have hnew : Hid (SlR .u32 (wr.alloc (.cells #[.int .u32 (x[i]?.getD 0 / 2 ^ s)] 105)) (some ⟨wr.heap.size, 0, none⟩) 1 1 [x[i]?.getD 0 / 2 ^ s]) := (KBlk.new wr 105 [x[i]?.getD 0 / 2 ^ s]).slr_all rfl (Nat.le_refl _) (by decide)
        go_wp2_with (at_builtin; refine wpList_appendK _ rfl (.tmp 56) (.tmp 63) _ rfl 105 .u32 4 Tryz.underlying22 u32_info w1.heap.size A2 i c2 S rfl ?own (some ⟨wr.heap.size, 0, none⟩) 1 1 [x[i]?.getD 0 / 2 ^ s] rfl ?slr ?h63 ?hby ?hbase ?_)
        case own => exact hk.below ((Below.refl _ _).alloc (Nat.le_refl _) _)
        case slr => exact hnew.out
        case h63 => unfold maxLen; omega
        case hby => omega
        case hbase => have := hbr.size; simp; omega
        intro A3 c3 w3 ho3 hb3
        rw [Hd.out] at ho3
        have Ho := Lib.hid ho3
        have HB : Hid (Below w1.heap.size w1 w3) := (hbr.alloc hbr.size _).trans hb3
        clear hnew ho3 hb3 hk hv
        go_wp2
        go_roundw
        case rel => exact ⟨i + 1, _, A3, c3, by omega, rfl, by go_num, Ho.out, dS.out.snoc Hdg.out.2, Hst.out, HB.out⟩
        case measure => simp [intOf]; omega
    · obtain rfl : i = N := by omega
      have hval : Nt.val S = Nt.val a / 2 ^ s := by
        have h1 := hv.out
        have p0 := Nt.p2_pos s
        have m0 := Int.emod_nonneg (x[0]?.getD 0) (b := 2 ^ s) (by omega)
        have m1 := Int.emod_lt_of_pos (x[0]?.getD 0) p0
        have e2 : x[i]?.getD 0 = 0 := by rw [List.getElem?_eq_none (by have := eN.out; omega)]; rfl
        rw [Nt.valTo_all x (by have := eN.out; omega), e2] at h1
        simp only [Int.zero_emod, Int.zero_mul, Int.add_zero] at h1
        rw [HX.out]
        have := (Nt.div_of p0 (a := Nt.val x) (q := Nt.val S) (r := x[0]?.getD 0 % 2 ^ s) (by rw [Int.mul_comm]; omega) m0 m1).1
        exact this.symm
      have Hval := Lib.hid hval
      have Hs := Lib.hid hk.slr
      clear hval hk hv
      go_wp2_with fail
      refine (rTrim_any _ _ _ _ _ Hs.out dS.out (by omega)).mono ?_
      rintro e w4 ⟨A4, n4, c4, rfl, f4, hb4⟩
      rw [Hval.out] at f4
      have HF := Lib.hid f4
      clear f4
      go_wp2
      go_ret
      have hB3 : Below w.heap.size w wr := hb1.trans (hbr.mono hb1.size)
      exact ⟨A4, n4, c4, rfl, ⟨HF.out.1, HF.out.2.mono hB3.size⟩, hB3.trans (hb4.mono hB3.size)⟩
end Go.Proofs.YtnedhbidmfoegaaGreat
namespace Go.Proofs.YtnedhbidmfoegaaGreat
open Go.RowKit
set_option linter.unusedVariables false
theorem rShift_down (A : Option Addr) (n c z : Nat) (a : List Int) (w : World) (ha : SlR .u32 w A n c a) (da : Nt.Dig a) (hn : n ≤ 1000000000) (hz : z < 32) :
    Calls Tryz.prog 203 #[.slice A n c, .int .i64 (-(z : Int))] w fun e w' => ∃ A' n' c', e = .returned (.slice A' n' c') ∧ OwnF w w' A' n' c' (Nt.val a / 2 ^ z).toNat ∧ Below w.heap.size w w' := by
  rcases Nat.eq_zero_or_pos z with h | h
  · subst h
    have k := rShift_pos A n c 0 a w ha da hn (by omega)
    simp only [Int.pow_zero, Int.mul_one, Int.ediv_one] at k ⊢
    exact k
  · exact rShift_neg A n c z a w ha da hn h hz
namespace Nt
theorem and_low {p : Int} (h0 : 0 ≤ p) (h1 : p < 18446744073709551616) : bits .and .u64 p 4294967295 = p % 4294967296 :=
  bits_mask .u64 64 (by decide) (fun n h0 h1 => by rw [IntKind.wrap_u64]; omega) 32 (by decide) p h0 h1
/-- The list of the remainder, one digit of the quotient taken. -/
structure DigP (j n i : Nat) (L v S : List Int) (q cr bo : Int) : Prop where
  len : S.length = L.length
  dig : Dig S
  sum : valTo (S.drop j) i + q * valTo v i = valTo (L.drop j) i + (cr + bo) * pw i
  same : ∀ k, k < j ∨ j + i ≤ k → S[k]? = L[k]?
theorem DigP.next {j n i : Nat} {L v S : List Int} {q cr bo d x p t : Int} (h : DigP j n i L v S q cr bo) (hj : j + (n + 2) + 1 ≤ L.length) (hi : i < n + 2) (hd : d = v[i]?.getD 0) (hx : x = S[j + i]?.getD 0) (hp : p = q * d + cr) (ht : t = x - p % 4294967296 - bo) (t0 : -4294967296 ≤ t) (t1 : t < 4294967296) :
    DigP j n (i + 1) L v (S.set (j + i) (t % 4294967296)) q (p / 4294967296) (if t < 0 then 1 else 0) := by
  refine ⟨by rw [List.length_set]; exact h.len, h.dig.set _ (by omega), ?_, ?_⟩
  · rw [drop_set]
    refine ms_step (M := S.drop j) (u := L.drop j) (v := v) (p := p) (t := t) (by have := h.len; simp; omega) h.sum ?_ (by rw [← hd]; exact hp) (by rw [drop_getD, ← hx]; exact ht) t0 t1
    rw [drop_getD, drop_getD, h.same (j + i) (.inr (Nat.le_refl _))]
  · intro k hk
    rw [List.getElem?_set_ne (by omega)]
    exact h.same k (by omega)
structure DigQ (j n i : Nat) (M v R : List Int) (c : Int) : Prop where
  len : R.length = M.length
  dig : Dig R
  sum : valTo (R.drop j) i + c * pw i = valTo (M.drop j) i + valTo v i
  same : ∀ k, k < j ∨ j + i ≤ k → R[k]? = M[k]?
theorem DigQ.next {j n i : Nat} {M v R : List Int} {c d x t : Int} (h : DigQ j n i M v R c) (hj : j + (n + 2) + 1 ≤ M.length) (hi : i < n + 2) (hd : d = v[i]?.getD 0) (hx : x = R[j + i]?.getD 0) (ht : t = x + d + c) :
    DigQ j n (i + 1) M v (R.set (j + i) (t % 4294967296)) (t / 4294967296) := by
  refine ⟨by rw [List.length_set]; exact h.len, h.dig.set _ (by omega), ?_, ?_⟩
  · rw [drop_set]
    refine ab_step (M := M.drop j) (R := R.drop j) (v := v) (t := t) (by have := h.len; simp; omega) h.sum ?_ (by rw [drop_getD, ← hx, ← hd]; exact ht)
    rw [drop_getD, drop_getD, h.same (j + i) (.inr (Nat.le_refl _))]
  · intro k hk
    rw [List.getElem?_set_ne (by omega)]
    exact h.same k (by omega)
/-- What one digit's division leaves. -/
def DigR (j N : Nat) (L v L' : List Int) (q : Int) : Prop := L'.length = L.length ∧ Dig L' ∧ (∀ k, k < j ∨ j + N + 1 ≤ k → L'[k]? = L[k]?) ∧ 0 ≤ q ∧ q < 4294967296 ∧ valTo (L.drop j) (N + 1) = q * val v + valTo (L'.drop j) (N + 1) ∧ valTo (L'.drop j) (N + 1) < val v
theorem DigP.done {j n : Nat} {L v S : List Int} {q cr bo u0 t T top v1 v2 u2 : Int} (h : DigP j n (n + 2) L v S q cr bo) (hj : j + (n + 2) + 1 ≤ L.length) (hv : v.length = n + 2) (dv : Dig v) (dL : Dig L) (hu : u0 = L[j + (n + 2)]?.getD 0) (ht : t = u0 - cr - bo) (t0 : 0 ≤ t) (t1 : t < 4294967296) (q0 : 0 ≤ q) (q1 : q < 4294967296) (hF : DivFacts j n L v top u2 v1 v2) (hT : T = valTo (L.drop j) (n + 3) / val v) (hG : Good T top v1 v2 u2 q) (h1 : 1 ≤ v1) (h2 : 0 ≤ v2) :
    DigR j (n + 2) L v (S.set (j + (n + 2)) t) q := by
  have hs := h.sum
  rw [valTo_all v (by omega)] at hs
  have e : valTo ((S.set (j + (n + 2)) t).drop j) (n + 2 + 1) = valTo (L.drop j) (n + 2 + 1) - q * val v := by
    rw [drop_set, valTo_set _ _ (by have := h.len; simp; omega)]
    refine ms_end0 (Ul := valTo (L.drop j) (n + 2)) (uN := u0) hs ?_ ht
    rw [valTo_succ, drop_getD, ← hu]
  have hend := hG.end (pw_pos n) hF.eV (valTo_nonneg dv n) (valTo_lt dv n) hF.eU (valTo_nonneg (dL.drop j) n) h1 h2 (by rw [hT]; exact hF.tU) hF.vp
  refine ⟨by rw [List.length_set]; exact h.len, h.dig.set _ ⟨t0, t1⟩, ?_, q0, q1, ?_, ?_⟩
  · intro k hk
    rw [List.getElem?_set_ne (by omega)]
    exact h.same k (by omega)
  · rw [e]; omega
  · rw [e]; exact hend.2
theorem DigQ.done {j n : Nat} {L v S R : List Int} {q cr bo u0 t c T top v1 v2 u2 : Int} (h0 : DigP j n (n + 2) L v S q cr bo) (h : DigQ j n (n + 2) (S.set (j + (n + 2)) (t % 4294967296)) v R c) (hj : j + (n + 2) + 1 ≤ L.length) (hv : v.length = n + 2) (dv : Dig v) (dL : Dig L) (hu : u0 = L[j + (n + 2)]?.getD 0) (ht : t = u0 - cr - bo) (t0 : t < 0) (t1 : -4294967296 ≤ t) (q0 : 0 ≤ q) (q1 : q < 4294967296) (hF : DivFacts j n L v top u2 v1 v2) (hT : T = valTo (L.drop j) (n + 3) / val v) (hG : Good T top v1 v2 u2 q) (h1 : 1 ≤ v1) (h2 : 0 ≤ v2) :
    R[j + (n + 2)]?.getD 0 = t % 4294967296 ∧ 1 ≤ q ∧ (t % 4294967296 + c) % 4294967296 = 0 ∧ DigR j (n + 2) L v (R.set (j + (n + 2)) 0) (q - 1) := by
  have hs := h0.sum
  have ha := h.sum
  rw [valTo_all v (by omega)] at hs ha
  have e : valTo (S.drop j) (n + 2) + pw (n + 2) * t = valTo (L.drop j) (n + 2 + 1) - q * val v := by
    refine ms_end0 (Ul := valTo (L.drop j) (n + 2)) (uN := u0) hs ?_ ht
    rw [valTo_succ, drop_getD, ← hu]
  have hend := hG.end (pw_pos n) hF.eV (valTo_nonneg dv n) (valTo_lt dv n) hF.eU (valTo_nonneg (dL.drop j) n) h1 h2 (by rw [hT]; exact hF.tU) hF.vp
  have hU0 := valTo_nonneg (dL.drop j) (n + 2 + 1)
  rw [show n + 3 = n + 2 + 1 by omega] at hend
  have hX := valTo_lt (h0.dig.drop j) (n + 2)
  have hP := pw_pos (n + 2)
  have hVP := val_lt dv
  rw [hv] at hVP
  have hneg : valTo (L.drop j) (n + 2 + 1) - q * val v < 0 := by
    have : pw (n + 2) * t ≤ pw (n + 2) * (-1) := Int.mul_le_mul_of_nonneg_left (by omega) (by omega)
    omega
  have hq1 : 1 ≤ q := by
    rcases (show q = 0 ∨ 1 ≤ q by omega) with hq | hq
    · rw [hq] at hneg; omega
    · exact hq
  have hsl : valTo ((S.set (j + (n + 2)) (t % 4294967296)).drop j) (n + 2) = valTo (S.drop j) (n + 2) := by rw [drop_set, valTo_set_lt _ _ (Nat.le_refl _)]
  rw [hsl] at ha
  have hlen : (S.set (j + (n + 2)) (t % 4294967296)).length = L.length := by rw [List.length_set]; exact h0.len
  obtain ⟨k1, k2⟩ := ab_end hP ha e.symm (valTo_nonneg (h.dig.drop j) (n + 2)) (valTo_lt (h.dig.drop j) (n + 2)) (by have := hend.1; omega) (by omega)
  refine ⟨?_, hq1, by omega, by rw [List.length_set, h.len, hlen], h.dig.set _ (by omega), ?_, by omega, by omega, ?_, ?_⟩
  · rw [h.same _ (.inr (Nat.le_refl _))]
    simp [show j + (n + 2) < S.length by have := h0.len; omega]
  · intro k hk
    rw [List.getElem?_set_ne (by omega), h.same k (by omega), List.getElem?_set_ne (by omega)]
    exact h0.same k (by omega)
  · rw [drop_set, valTo_set _ _ (by rw [List.length_drop, h.len, hlen]; omega), k2, Int.sub_mul]; omega
  · rw [drop_set, valTo_set _ _ (by rw [List.length_drop, h.len, hlen]; omega), k2]; omega
theorem DigP.neg {j n : Nat} {L v S : List Int} {q cr bo u0 t : Int} (h0 : DigP j n (n + 2) L v S q cr bo) (hv : v.length = n + 2) (dL : Dig L) (hu : u0 = L[j + (n + 2)]?.getD 0) (ht : t = u0 - cr - bo) (t0 : t < 0) (q0 : 0 ≤ q) : 1 ≤ q := by
  have hs := h0.sum
  rw [valTo_all v (by omega)] at hs
  have e : valTo (S.drop j) (n + 2) + pw (n + 2) * t = valTo (L.drop j) (n + 2 + 1) - q * val v := by
    refine ms_end0 (Ul := valTo (L.drop j) (n + 2)) (uN := u0) hs ?_ ht
    rw [valTo_succ, drop_getD, ← hu]
  have hU0 := valTo_nonneg (dL.drop j) (n + 2 + 1)
  have hX := valTo_lt (h0.dig.drop j) (n + 2)
  have hP := pw_pos (n + 2)
  have : pw (n + 2) * t ≤ pw (n + 2) * (-1) := Int.mul_le_mul_of_nonneg_left (by omega) (by omega)
  rcases (show q = 0 ∨ 1 ≤ q by omega) with hq | hq
  · rw [hq] at e; omega
  · exact hq
theorem lz2 {y : Nat} (h0 : 0 < y) (h1 : y < 4294967296) : ∃ z : Nat, 32 - (bitl y : Int) = z ∧ z < 32 ∧ 2147483648 ≤ (y : Int) * 2 ^ z ∧ ((y : Int) + 1) * 2 ^ z ≤ 4294967296 := by
  have p2 := bitl_le h0
  have p3 := bitl_lt y
  have p1 : bitl y ≠ 0 := by unfold bitl; rw [if_neg (by omega)]; omega
  have hl : bitl y ≤ 32 := by
    have h3 : 2 ^ (bitl y - 1) < 2 ^ 32 := by omega
    have := (Nat.pow_lt_pow_iff_right (show 1 < 2 by omega)).1 h3
    omega
  generalize bitl y = b at *
  have k1 : 2 ^ (b - 1) * 2 ^ (32 - b) = 2147483648 := by rw [← Nat.pow_add, show b - 1 + (32 - b) = 31 by omega]
  have k2 : 2 ^ b * 2 ^ (32 - b) = 4294967296 := by rw [← Nat.pow_add, show b + (32 - b) = 32 by omega]
  have hp : 0 < 2 ^ (32 - b) := Nat.pow_pos (by omega)
  have a1 : 2 ^ (b - 1) * 2 ^ (32 - b) ≤ y * 2 ^ (32 - b) := Nat.mul_le_mul_right _ p2
  have a2 : (y + 1) * 2 ^ (32 - b) ≤ 2 ^ b * 2 ^ (32 - b) := Nat.mul_le_mul_right _ p3
  rw [k1] at a1
  rw [k2] at a2
  refine ⟨32 - b, by omega, by omega, ?_, ?_⟩
  · have : ((y * 2 ^ (32 - b) : Nat) : Int) = (y : Int) * 2 ^ (32 - b) := by rw [Int.natCast_mul, Int.natCast_pow]; rfl
    omega
  · have : (((y + 1) * 2 ^ (32 - b) : Nat) : Int) = ((y : Int) + 1) * 2 ^ (32 - b) := by rw [Int.natCast_mul, Int.natCast_pow]; rfl
    omega
/-- The divisor, shifted: as many digits, the highest bit set. -/
theorem vnorm {Y N z : Nat} {y : Int} (hl : (digits Y).length = N + 2) (hy : y = (digits Y)[N + 1]?.getD 0) (h1 : 2147483648 ≤ y * 2 ^ z) (h2 : (y + 1) * 2 ^ z ≤ 4294967296) :
    (digits (Y * 2 ^ z)).length = N + 2 ∧ 2147483648 ≤ (digits (Y * 2 ^ z))[N + 1]?.getD 0 := by
  have hp := pw_pos (N + 1)
  have hz := p2_pos z
  have eb : (Y : Int) = valTo (digits Y) (N + 1) + pw (N + 1) * y := by
    have h := digits_val Y
    rw [← valTo_all (digits Y) (n := N + 2) (by omega), valTo_succ, ← hy] at h
    exact h.symm
  have b0 := valTo_nonneg (digits_dig Y) (N + 1)
  have b1 := valTo_lt (digits_dig Y) (N + 1)
  have ep : pw (N + 2) = 4294967296 * pw (N + 1) := rfl
  have ec : ((Y * 2 ^ z : Nat) : Int) = (Y : Int) * 2 ^ z := by rw [Int.natCast_mul, Int.natCast_pow]; rfl
  have hlt : (Y : Int) * 2 ^ z < pw (N + 2) := by
    have k1 : (Y : Int) * 2 ^ z < (pw (N + 1) * (y + 1)) * 2 ^ z := Int.mul_lt_mul_of_pos_right (by rw [eb, Int.mul_add]; omega) hz
    have k2 : (pw (N + 1) * (y + 1)) * 2 ^ z ≤ pw (N + 1) * 4294967296 := by rw [Int.mul_assoc]; exact Int.mul_le_mul_of_nonneg_left h2 (by omega)
    omega
  have k3 : pw (N + 1) * (y * 2 ^ z) ≤ (Y : Int) * 2 ^ z := by
    rw [eb, Int.add_mul, Int.mul_assoc]
    have : 0 ≤ valTo (digits Y) (N + 1) * 2 ^ z := Int.mul_nonneg b0 (by omega)
    omega
  have k4 : pw (N + 1) * 2147483648 ≤ pw (N + 1) * (y * 2 ^ z) := Int.mul_le_mul_of_nonneg_left h1 (by omega)
  have l1 := digits_length_le (v := Y * 2 ^ z) (n := N + 2) (by rw [ec]; exact hlt)
  have l2 := digits_length_gt (v := Y * 2 ^ z) (n := N + 1) (by rw [ec]; omega)
  have l3 : (digits (Y * 2 ^ z)).length = N + 2 := by omega
  refine ⟨l3, ?_⟩
  have ev : (Y : Int) * 2 ^ z = valTo (digits (Y * 2 ^ z)) (N + 1) + pw (N + 1) * (digits (Y * 2 ^ z))[N + 1]?.getD 0 := by
    have h := digits_val (Y * 2 ^ z)
    rw [← valTo_all (digits (Y * 2 ^ z)) (n := N + 2) (by omega), valTo_succ, ec] at h
    exact h.symm
  have v1 := valTo_lt (digits_dig (Y * 2 ^ z)) (N + 1)
  have k5 : pw (N + 1) * 2147483648 < pw (N + 1) * ((digits (Y * 2 ^ z))[N + 1]?.getD 0 + 1) := by rw [Int.mul_add _ _ 1]; omega
  have := Int.lt_of_mul_lt_mul_left k5 (by omega)
  omega
/-- The dividend, shifted, with a 0 above it: its upper part is less than the divisor. -/
theorem ulow {u v : List Int} {M N : Nat} (du : Dig u) (hl : u.length + 1 = M + (N + 2)) (dv : Dig v) (hv : v.length = N + 2) (hv1 : 2147483648 ≤ v[N + 1]?.getD 0) : val ((u ++ [0]).drop M) < val v := by
  have hd : Dig (u ++ [0]) := du.snoc (by omega)
  have e := val_take_drop (u ++ [0]) M
  have e2 : val (u ++ [0]) = val u := by rw [snoc_val]; simp
  have u1 := val_lt du
  have u0 := valTo_nonneg hd M
  have hp := pw_pos M
  rw [show u.length = M + (N + 1) by omega, pw_add] at u1
  have k2 : pw M * val ((u ++ [0]).drop M) < pw M * pw (N + 1) := by omega
  have k3 := Int.lt_of_mul_lt_mul_left k2 (by omega)
  have ev : val v = valTo v (N + 1) + pw (N + 1) * v[N + 1]?.getD 0 := by rw [← valTo_all v (n := N + 2) (by omega), valTo_succ]
  have v0 := valTo_nonneg dv (N + 1)
  have hp1 := pw_pos (N + 1)
  have k4 : pw (N + 1) * 1 ≤ pw (N + 1) * v[N + 1]?.getD 0 := Int.mul_le_mul_of_nonneg_left (by omega) (by omega)
  omega
end Nt
/-- 'append(s, x...)' where something is appended: only the row of s is written. -/
theorem wpList_appendG {P : Program} (w : World) {ops : Array Oper} {rest : List Oper} {o : Oper} {a : Act} {Q : Exit → Act → World → Prop} (hgd : o.guard = none) (s x : Operand) (t : TypeId)
    (ho : o.op = .call { callee := .builtin .append, args := #[s, x], argTypes := #[t, t] })
    (e : TypeId) (k : IntKind) (bytes : Nat) (h1 : P.underlying t = some (.slice e)) (h2 : (P.info? e).map (fun i => (i.zero, i.size, i.bytes)) = some (some (.int k 0), 1, bytes))
    (base : Nat) (A : Option Addr) (n c : Nat) (l : List Int) (hs : a.eval s = .slice A n c) (hown : OwnK k w base e A n c l)
    (ad : Addr) (m c' : Nat) (news : List Int) (hx : a.eval x = .slice (some ad) m c') (hr : SlR k w (some ad) m c' news)
    (h63 : n + m ≤ maxLen) (hbytes : (n + m) * bytes ≤ 140737488355328) (hbase : base ≤ w.heap.size)
    (h : ∀ A₁ c₁ w', OwnK k w' base e A₁ (n + m) c₁ (l ++ news) → Below base w w' → (∀ b, b < w.heap.size → (∀ p, A = some p → p.block ≠ b) → w'.heap[b]? = w.heap[b]?) → (∀ p, A₁ = some p → (∃ p0, A = some p0 ∧ p.block = p0.block) ∨ p.block = w.heap.size) → w.heap.size ≤ w'.heap.size → wpList P ops Q rest (a.put o.dst (.slice A₁ (n + m) c₁)) w') : wpList P ops Q (o :: rest) a w := by
  obtain ⟨i, hi, hz, hsz, hb⟩ := info_parts h2
  refine wpList_plain hgd fun K hK => ?_
  obtain ⟨v', w', hrun, g1, g2, _, g4⟩ := run_append_own_at (P := P) w base t o.type e i _ 1 bytes h1 hi hz hsz hb rfl (by omega) _ n _ hown.2 ad m c' (news.map (Value.int k)) (by simpa using hr.1)
    (by
      intro j u hu
      have hj : j < m := by rw [← hr.1]; rcases Nat.lt_or_ge j news.length with h' | h'; exact h'; simp [List.getElem?_eq_none h'] at hu
      obtain ⟨b, q, he, hlt, hcell⟩ := hr.2.2.2 (by omega)
      injection he with he
      subst he
      rw [show (⟨b, q, none⟩ : Addr).add j = ⟨b, q + j, none⟩ by unfold Addr.add; split <;> simp_all, hcell j hj, ← hu]
      simp [show j < news.length by rw [hr.1]; exact hj])
    (by intro u hu; simp at hu; obtain ⟨z, _, rfl⟩ := hu; rfl) h63 hbytes hbase
  have g3 : Below base w w' := (Below.refl _ _).grown g2 hbase (fun j hj => (hown.2.lt j hj).1)
  obtain ⟨A₁, c₁, hv⟩ : ∃ A₁ c₁, v' = .slice A₁ (n + m) c₁ := by
    rcases g1.2 with ⟨he, hn⟩ | ⟨g, cap, cur, he, _⟩
    · exact ⟨none, 0, by rw [he, hn]⟩
    · exact ⟨_, _, he⟩
  subst hv
  have hown' : OwnK k w' base e A₁ (n + m) c₁ (l ++ news) := ⟨by simp [hown.1, hr.1], by simpa using g1⟩
  unfold Oper.wp execOp
  simp only [ho, resolve, invoke, builtin, Sem.run_bind, Sem.run_pure, Result.andThen_ok, List.map_toArray, List.map_cons, List.map_nil, hs, hx, hrun]
  refine hK _ _ (h A₁ c₁ w' hown' g3 ?_ ?_ g2.size)
  · intro b hb' hne
    refine g2.block b hb' ?_
    rcases A with _ | p
    · simp [Value.ownBlock]
    · simp only [Value.ownBlock]
      intro h'
      injection h' with h'
      exact hne p rfl h'.symm
  · intro p hp
    subst hp
    rcases g4 with h' | h'
    · left
      rcases A with _ | p0
      · simp [Value.ownBlock] at h'
      · simp only [Value.ownBlock] at h'
        injection h' with h'
        exact ⟨p0, rfl, h'⟩
    · right
      simp only [Value.ownBlock] at h'
      injection h'
theorem SlR.blk {k : IntKind} {w w' : World} {g o n c : Nat} {l : List Int} (h : SlR k w (some ⟨g, o, none⟩) n c l) (hb : w'.heap[g]? = w.heap[g]?) (hs : w.heap.size ≤ w'.heap.size) : SlR k w' (some ⟨g, o, none⟩) n c l := by
  obtain ⟨h1, h2, h3, h4⟩ := h
  refine ⟨h1, h2, h3, fun hp => ?_⟩
  obtain ⟨b, q, e, hlt, hc⟩ := h4 hp
  cases e
  refine ⟨g, o, rfl, by omega, fun i hi => ?_⟩
  rw [← hc i hi]
  unfold World.cell?
  simp only []
  rw [hb]
/-- The worlds of the reference's division: u and q are its own, v is read. -/
structure RW (wr w : World) (B gu Lu cu gv cv n gq : Nat) (v U Q : List Int) : Prop where
  ku : OwnK .u32 wr B 105 (some ⟨gu, 0, none⟩) Lu cu U
  kv : SlR .u32 wr (some ⟨gv, 0, none⟩) n cv v
  kq : KBlk .u32 wr gq 105 Q
  bel : Below w.heap.size w wr
section
variable {wr w : World} {B gu Lu cu gv cv n gq : Nat} {v U Q : List Int}
theorem RW.drewN (h : RW wr w B gu Lu cu gv cv n gq v U Q) (k : Nat) : RW (wr.drewN k) w B gu Lu cu gv cv n gq v U Q := ⟨h.ku, h.kv, h.kq, Below.drewN' h.bel k⟩
theorem RW.setU (h : RW wr w B gu Lu cu gv cv n gq v U Q) (n1 : gv ≠ gu) (n2 : gq ≠ gu) (hw : w.heap.size ≤ gu) (i : Nat) (x : Int) : RW (wr.setCell ⟨gu, i, none⟩ (.int .u32 x)) w B gu Lu cu gv cv n gq v (U.set i x) Q :=
  ⟨h.ku.set i x, h.kv.setCell _ (fun a ha => by injection ha with ha; subst ha; exact n1), h.kq.far (p := ⟨gu, i, none⟩) n2 _, h.bel.setCell (p := ⟨gu, i, none⟩) hw _⟩
theorem RW.setQ (h : RW wr w B gu Lu cu gv cv n gq v U Q) (n3 : gv ≠ gq) (n2 : gq ≠ gu) (hw : w.heap.size ≤ gq) (i : Nat) (x : Int) : RW (wr.setCell ⟨gq, i, none⟩ (.int .u32 x)) w B gu Lu cu gv cv n gq v U (Q.set i x) :=
  ⟨h.ku.far (p := ⟨gq, i, none⟩) _ (fun a ha => by injection ha with ha; subst ha; exact fun h => n2 h.symm), h.kv.setCell _ (fun a ha => by injection ha with ha; subst ha; exact n3), h.kq.set i x, h.bel.setCell (p := ⟨gq, i, none⟩) hw _⟩
theorem RW.ucell (h : RW wr w B gu Lu cu gv cv n gq v U Q) {i : Nat} (hi : i < Lu) : wr.cell? ⟨gu, i, none⟩ = some (.int .u32 (U[i]?.getD 0)) := h.ku.cell hi
theorem RW.vcell (h : RW wr w B gu Lu cu gv cv n gq v U Q) {i : Nat} (hi : i < n) : wr.cell? ⟨gv, i, none⟩ = some (.int .u32 (v[i]?.getD 0)) := by
  obtain ⟨b, o, e, _, hc⟩ := h.kv.pos hi
  cases e
  simpa using hc
end
end Go.Proofs.YtnedhbidmfoegaaGreat
namespace Go.Proofs.YtnedhbidmfoegaaGreat
open Go.RowKit
set_option linter.unusedVariables false
set_option maxRecDepth 1000000 in
set_option maxHeartbeats 4000000 in
theorem rDivMod_one (A B : Option Addr) (n c m d : Nat) (a b : List Int) (w : World) (ha : SlR .u32 w A n c a) (hb : SlR .u32 w B m d b) (da : Nt.Dig a) (db : Nt.Dig b) (hn : n ≤ 1000000000) (hm : m ≤ 1000000000) (hz : 0 < Nt.val b) (hz1 : Nt.val b < 4294967296) :
    Calls Tryz.prog 191 #[.slice A n c, .slice B m d] w fun e w' => DivMF w w' e (Nt.val a) (Nt.val b) := by
  have lx : Hid ((Nt.digits (Nt.val a).toNat).length ≤ n) := by rw [← Nt.strip_eq da, ← ha.1]; exact Nt.strip_length_le a
  have a0 := Nt.val_nonneg da
  go_enter Tryz.func191, Tryz.ntmps191
  go_wp2_with fail
  refine (rTrim_any _ _ _ _ _ ha da (by omega)).mono ?_
  rintro e w1 ⟨A1, N, c1, rfl, f1, hb1⟩
  go_wp2_with fail
  refine (rTrim_any _ _ _ _ _ (hb.below hb1) db (by omega)).mono ?_
  rintro e w2 ⟨A2, M, c2, rfl, f2, hb2⟩
  have hdy : Nt.digits (Nt.val b).toNat = [Nt.val b] := by
    rw [Nt.digits, if_neg (by omega), Nt.digits, if_pos (by omega)]
    congr 1
    omega
  obtain rfl : M = 1 := by have := f2.1; rw [hdy] at this; simpa using this
  have hy := f2.nat.2.1
  have hx := f1.nat.2.1.below hb2
  rw [hdy] at hy
  obtain ⟨g, o, rfl, hg, hc⟩ := hy.pos (i := 0) (by omega)
  simp only [List.getElem?_cons_zero, Option.getD_some, Nat.add_zero] at hc
  have hN : N ≤ 1000000000 := by have := f1.1; have := lx.out; omega
  have hB : Hid (Below w.heap.size w w2) := hb1.trans (hb2.mono hb1.size)
  obtain ⟨y, hyy⟩ : ∃ y, y = Nt.val b := ⟨_, rfl⟩
  have Hyy := Lib.hid hyy
  rw [← hyy] at hc hz hz1
  clear f1 f2 hb1 hb2 ha hb hy hdy hyy
  go_wp2_with fail
  refine (rsmall_any _ _ _ _ y _ hx (Nt.digits_dig _) hz hz1 hN).mono ?_
  rintro e w3 ⟨A3, n3, c3, rfl, f3, hb3⟩
  rw [Nt.digits_val, Int.toNat_of_nonneg a0] at f3
  rw [Nt.digits_val, Int.toNat_of_nonneg a0]
  have F3 := Lib.hid f3
  have r0 : 0 ≤ Nt.val a % y := Int.emod_nonneg _ (by omega)
  have r1 : Nt.val a % y < 4294967296 := by have := Int.emod_lt_of_pos (Nt.val a) hz; omega
  have Hb3 := Lib.hid hb3
  clear f3 hb3 hx hc
  obtain ⟨r, hr⟩ : ∃ r, r = Nt.val a % y := ⟨_, rfl⟩
  have Hr := Lib.hid hr
  rw [← hr] at r0 r1 ⊢
  clear hr
  have hnew : Hid (SlR .u32 (w3.alloc (.cells #[.int .u32 r] 105)) (some ⟨w3.heap.size, 0, none⟩) 1 1 [r]) := (KBlk.new w3 105 [r]).slr_all rfl (Nat.le_refl _) (by decide)
  go_wp2_with fail
  refine (rTrim_any _ _ _ _ _ hnew.out (Nt.Dig.cons ⟨r0, r1⟩ Nt.Dig.nil) (by omega)).mono ?_
  rintro e w4 ⟨A4, n4, c4, rfl, f4, hb4⟩
  have F4 := Lib.hid f4
  have Hb4 := Lib.hid hb4
  clear f4 hb4
  go_wp2
  go_ret3
  have hB3 : Below w.heap.size w w3 := hB.out.trans (Hb3.out.mono hB.out.size)
  have hBa := hB3.alloc hB3.size (.cells #[.int .u32 r] 105)
  have f4 := F4.out.nat
  have e4 : Nt.val [r] = Nt.val a % Nt.val b := by rw [← Hyy.out, ← Hr.out]; simp [Nt.val]
  rw [e4] at f4
  have f3 := F3.out
  rw [Hyy.out] at f3
  refine ⟨A3, n3, c3, A4, n4, c4, rfl, (f3.mono hB.out.size).below ?_, f4.mono hBa.size, hBa.trans (Hb4.out.mono hBa.size)⟩
  exact ((Below.refl _ _).alloc (Nat.le_refl _) _).trans (Hb4.out.mono (by simp))
set_option maxRecDepth 1000000 in
set_option maxHeartbeats 4000000 in
theorem rDivMod_lt (A B : Option Addr) (n c m d : Nat) (a b : List Int) (w : World) (ha : SlR .u32 w A n c a) (hb : SlR .u32 w B m d b) (da : Nt.Dig a) (db : Nt.Dig b) (hn : n ≤ 1000000000) (hm : m ≤ 1000000000) (hz : 4294967296 ≤ Nt.val b) (hlt : Nt.val a < Nt.val b) :
    Calls Tryz.prog 191 #[.slice A n c, .slice B m d] w fun e w' => DivMF w w' e (Nt.val a) (Nt.val b) := by
  have lx : Hid ((Nt.digits (Nt.val a).toNat).length ≤ n) := by rw [← Nt.strip_eq da, ← ha.1]; exact Nt.strip_length_le a
  have ly : Hid ((Nt.digits (Nt.val b).toNat).length ≤ m) := by rw [← Nt.strip_eq db, ← hb.1]; exact Nt.strip_length_le b
  have a0 := Nt.val_nonneg da
  have hcmp : Nt.cmpS (Nt.val a) (Nt.val b) = -1 := by unfold Nt.cmpS; rw [if_pos hlt]
  have Hc := Lib.hid hcmp
  have Hlt := Lib.hid hlt
  clear hcmp hlt
  go_enter Tryz.func191, Tryz.ntmps191
  go_wp2_with fail
  refine (rTrim_any _ _ _ _ _ ha da (by omega)).mono ?_
  rintro e w1 ⟨A1, N, c1, rfl, f1, hb1⟩
  go_wp2_with fail
  refine (rTrim_any _ _ _ _ _ (hb.below hb1) db (by omega)).mono ?_
  rintro e w2 ⟨A2, M, c2, rfl, f2, hb2⟩
  have hM2 : 1 < M := by
    have := Nt.digits_length_gt (v := (Nt.val b).toNat) (n := 1) (by simp [Nt.pw]; omega)
    rw [f2.1]; exact this
  have hN : N ≤ 1000000000 := by have := f1.1; have := lx.out; omega
  have hM : M ≤ 1000000000 := by have := f2.1; have := ly.out; omega
  have F1 := Lib.hid f1
  have hy := f2.nat.2.1
  have hx := f1.nat.2.1.below hb2
  have h0 : ((M : Int) == 0) = false := by rw [beq_eq_false_iff_ne]; omega
  have h1 : ((M : Int) == 1) = false := by rw [beq_eq_false_iff_ne]; omega
  have Hb1 := Lib.hid hb1
  have Hb2 := Lib.hid hb2
  clear f1 f2 ha hb hb1 hb2
  go_wp2_with fail
  refine (rCompare_any _ _ _ _ _ _ _ _ _ hx hy (Nt.digits_dig _) (Nt.digits_dig _) (by omega) (by omega)).mono ?_
  rintro e w3 ⟨rfl, hb3⟩
  rw [Nt.digits_val, Nt.digits_val, Int.toNat_of_nonneg a0, Int.toNat_of_nonneg (by omega), Hc.out]
  have Hb3 := Lib.hid hb3
  clear hb3 hx hy
  go_wp2
  go_ret3
  have hB2 : Below w.heap.size w w2 := Hb1.out.trans (Hb2.out.mono Hb1.out.size)
  have e1 : Nt.val a / Nt.val b = 0 := Int.ediv_eq_zero_of_lt a0 Hlt.out
  have e2 : Nt.val a % Nt.val b = Nt.val a := Int.emod_eq_of_lt a0 Hlt.out
  refine ⟨none, 0, 0, A1, N, c1, rfl, ?_, ?_, hB2.trans (Hb3.out.mono hB2.size)⟩
  · rw [e1]
    exact ⟨by simp [Nt.digits_zero], by simp [Nt.digits_zero]; exact SlR.nil _ _ _ (Nat.zero_le _), fun h => absurd h (by omega)⟩
  · rw [e2]
    exact (F1.out.nat.below Hb2.out).below Hb3.out
end Go.Proofs.YtnedhbidmfoegaaGreat

/- Plain laws of intervals of rationals; a copied list of digits. -/
import Derived.Test.YtnedhbidmfoegaaGreatQr
namespace Go.Proofs.YtnedhbidmfoegaaGreat
open Go.RowKit
set_option linter.unusedVariables false
@[reducible] def IV (a b : RL) : Value := .agg #[.bool a.s, .slice a.m.a a.m.n a.m.c, .slice a.d.a a.d.n a.d.c, .bool b.s, .slice b.m.a b.m.n b.m.c, .slice b.d.a b.d.n b.d.c]
namespace Nt
theorem cmpQ_gt (x y : Rat) : decide ((0 : Int) < cmpQ x y) = decide (y < x) := by
  unfold cmpQ
  rw [decide_eq_decide]
  split
  · constructor
    · intro h; simp at h
    · intro h; grind
  · split
    · constructor
      · intro h; simp at h
      · intro h; grind
    · constructor
      · intro h; grind
      · intro h; simp
theorem cmpQ_le (x y : Rat) : decide (cmpQ x y ≤ (0 : Int)) = decide (x ≤ y) := by
  unfold cmpQ
  rw [decide_eq_decide]
  split
  · constructor
    · intro h; grind
    · intro h; simp
  · split
    · constructor
      · intro h; grind
      · intro h; simp
    · constructor
      · intro h; simp at h
      · intro h; grind
theorem cmpQ_eq (x y : Rat) : (cmpQ x y == (0 : Int)) = decide (x = y) := by
  unfold cmpQ
  rw [Bool.eq_iff_iff, decide_eq_true_iff]
  split
  · constructor
    · intro h; simp at h
    · intro h; grind
  · split <;> simp_all
theorem sgQ_gt (x : Rat) : decide ((0 : Int) < sgQ x) = decide (0 < x) := cmpQ_gt x 0
theorem sgQ_lt (x : Rat) : decide (sgQ x < (0 : Int)) = decide (x < 0) := cmpQ_lt x 0
theorem sgQ_eq (x : Rat) : (sgQ x == (0 : Int)) = decide (x = 0) := cmpQ_eq x 0
theorem ends_gt {x y : Rat} (h : decide ((0 : Int) < cmpQ x y) = true) : lo x y = y ∧ hi x y = x := by
  rw [cmpQ_gt] at h
  have h := of_decide_eq_true h
  unfold lo hi
  exact ⟨if_pos h, if_neg (by grind)⟩
theorem ends_le {x y : Rat} (h : decide ((0 : Int) < cmpQ x y) = false) : lo x y = x ∧ hi x y = y := by
  rw [cmpQ_gt] at h
  have h := of_decide_eq_false h
  unfold lo hi
  refine ⟨if_neg h, ?_⟩
  split
  · rfl
  · grind
theorem lesser_lt {x y : Rat} (h : decide (cmpQ y x < (0 : Int)) = true) : lo x y = y := by
  rw [cmpQ_lt] at h
  exact if_pos (of_decide_eq_true h)
theorem lesser_ge {x y : Rat} (h : decide (cmpQ y x < (0 : Int)) = false) : lo x y = x := by
  rw [cmpQ_lt] at h
  exact if_neg (of_decide_eq_false h)
theorem greater_gt {x y : Rat} (h : decide ((0 : Int) < cmpQ y x) = true) : hi x y = y := by
  rw [cmpQ_gt] at h
  exact if_pos (of_decide_eq_true h)
theorem greater_le {x y : Rat} (h : decide ((0 : Int) < cmpQ y x) = false) : hi x y = x := by
  rw [cmpQ_gt] at h
  exact if_neg (of_decide_eq_false h)
theorem lo_le_hi (x y : Rat) : lo x y ≤ hi x y := by unfold lo hi; grind
theorem lo_of_le {x y : Rat} (h : x ≤ y) : lo x y = x ∧ hi x y = y := by unfold lo hi; grind
/-- Whether x lies in the interval with the ends a, b. -/
def inI (a b x : Rat) : Bool := decide (lo a b ≤ x) && decide (x ≤ hi a b)
theorem inI_less (a b x : Rat) : inI a b x = ((!decide (x < lo a b)) && (!decide (hi a b < x))) := by
  unfold inI
  rw [Bool.eq_iff_iff]
  simp
  grind
/-- The sign of an interval. -/
def sgI (a b : Rat) : Int := if 0 < lo a b then 1 else if hi a b < 0 then -1 else 0
/-- The least, the greatest of four. -/
def lo4 (a b c d : Rat) : Rat := lo (lo (lo a b) c) d
def hi4 (a b c d : Rat) : Rat := hi (hi (hi a b) c) d
end Nt
section
variable {u u' w w' : World} {x y : Sl} {i j : IL} {r r' : RL} {N M K L : Nat} {z z' : Int} {q q' : Rat}
theorem k_cloneN (d : Dat u w) (h : NatN u x N K) (hK : K ≤ 500000000) : Calls Tryz.prog 184 #[x.v] w (Post u w fun v u' => ∃ y : Sl, v = y.v ∧ NatN u' y N K) := by
  obtain ⟨h1, h2, h3⟩ := h
  refine (CloneU_any _ _ _ _ _ (h2.ext d.ext) (by omega)).mono fun e w' ⟨A', c', he, f, g, hb⟩ => ?_
  have hs : u.heap.size ≤ w'.heap.size := by rw [d.size]; exact hb.size
  exact ⟨_, over u w', he, over_dat d hb, hb, over_grow hs, ⟨A', x.n, c'⟩, rfl, h1, f.over (fun hp => by obtain ⟨a, e, k, _⟩ := g hp; exact ⟨a, e, by rw [d.size]; exact k⟩) hs, h3⟩
theorem own_rat {m e : Sl} (h : RatN u r q K) (h1 : NatN u' m q.num.natAbs K) (h2 : NatN u' e q.den K) : RatN u' ⟨r.s, m, e⟩ q K := ⟨⟨h.1.1, h1⟩, h2⟩
/-- Few digits. -/
theorem RatV.few (h : RatV u r q K) (h1 : r.m.n ≤ L) (h2 : r.d.n ≤ L) (hL : 1 ≤ L) : RatV u r q L := by
  obtain ⟨⟨z, D, ⟨N, ⟨l, a1, a2, a3, a4⟩, h4⟩, ⟨l', b1, b2, b3, b4⟩, h5⟩, h6⟩ := h
  exact ⟨⟨z, D, ⟨N, ⟨l, a1, a2, h1, a4⟩, h4⟩, ⟨l', b1, b2, h2, b4⟩, h5⟩, hL⟩
end
end Go.Proofs.YtnedhbidmfoegaaGreat

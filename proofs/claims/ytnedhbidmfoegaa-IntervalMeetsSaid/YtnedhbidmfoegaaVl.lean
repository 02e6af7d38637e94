/- How values read in data worlds; the contracts of nat and of its reference in these words. Printed by wip/sym/mkvl.py. -/
import Derived.Test.YtnedhbidmfoegaaFw
import Derived.Test.YtnedhbidmfoegaaNatQ
import Derived.Test.YtnedhbidmfoegaaRfI
import Derived.KernelRfl
import Derived.IntWalk
namespace Go.Proofs.Ytnedhbidmfoegaa
open Go.RowKit
set_option linter.unusedVariables false
/-- How many digits N has. -/
def dl (N : Nat) : Nat := (Nt.digits N).length
namespace Nt
theorem dl_mono {x y : Nat} (h : y ≤ x) : dl y ≤ dl x := digits_len_mono h
theorem dl_lt {x : Nat} : (x : Int) < pw (dl x) := by have := val_lt (digits_dig x); rw [digits_val] at this; exact this
theorem dl_le {x n : Nat} (h : (x : Int) < pw n) : dl x ≤ n := digits_length_le h
theorem dl_mul (x y : Nat) : dl (x * y) ≤ dl x + dl y := by
  apply dl_le
  rw [pw_add, Int.natCast_mul]
  have h1 := dl_lt (x := x)
  have h2 := dl_lt (x := y)
  have a : (x : Int) * y ≤ x * pw (dl y) := Int.mul_le_mul_of_nonneg_left (by omega) (by omega)
  have b : (x : Int) * pw (dl y) < pw (dl x) * pw (dl y) := Int.mul_lt_mul_of_pos_right h1 (pw_pos _)
  omega
theorem dl_add (x y : Nat) : dl (x + y) ≤ max (dl x) (dl y) + 1 := by
  apply dl_le
  rw [pw, Int.natCast_add]
  have h1 := dl_lt (x := x)
  have h2 := dl_lt (x := y)
  have a := pw_mono (Nat.le_max_left (dl x) (dl y))
  have b := pw_mono (Nat.le_max_right (dl x) (dl y))
  have := pw_pos (max (dl x) (dl y))
  omega
theorem dl_one : dl 1 = 1 := by unfold dl; rw [digits, if_neg (by omega), digits, if_pos (by omega)]; rfl
theorem dl_zero : dl 0 = 0 := by unfold dl; rw [digits_zero]; rfl
theorem dl_of_lt {x : Nat} (h : x < 18446744073709551616) : dl x ≤ 2 := dl_le (by simp [pw]; omega)
theorem dl_pos {x : Nat} : 0 < dl x ↔ 0 < x := by
  constructor
  · intro h0
    rcases Nat.eq_zero_or_pos x with h' | h'
    · rw [h', dl_zero] at h0; omega
    · exact h'
  · exact digits_length_pos
/-- A sign and a natural number. -/
def sg (s : Bool) (N : Nat) : Int := if s then -(N : Int) else (N : Int)
theorem sg_abs (s : Bool) (N : Nat) : (sg s N).natAbs = N := by unfold sg; split <;> omega
theorem sg_false (N : Nat) : sg false N = N := rfl
theorem sg_true (N : Nat) : sg true N = -N := rfl
theorem sg_add1 {s t : Bool} (N M : Nat) (h : (s == t) = true) : sg s (N + M) = sg s N + sg t M := by cases s <;> cases t <;> simp_all [sg] <;> omega
theorem sg_add2 {s t : Bool} (N M : Nat) (h : (s == t) = false) (c : (cmpS (N : Int) (M : Int) == -1) = true) : sg t (M - N) = sg s N + sg t M := by
  unfold cmpS at c
  cases s <;> cases t <;> simp_all [sg] <;> omega
theorem sg_add3 {s t : Bool} (N M : Nat) (h : (s == t) = false) (c : (cmpS (N : Int) (M : Int) == -1) = false) : sg s (N - M) = sg s N + sg t M := by
  unfold cmpS at c
  cases s <;> cases t <;> simp_all [sg] <;> omega
theorem sg_mul (s t : Bool) (N M : Nat) : sg (!(s == t)) (N * M) = sg s N * sg t M := by
  cases s <;> cases t <;> simp [sg, Int.neg_mul, Int.mul_neg]
theorem sg_neg (s : Bool) (N : Nat) : sg (!s) N = -sg s N := by cases s <;> simp [sg]
theorem sg_cmp0 {s : Bool} (N : Nat) : cmpS (sg s N) 0 = if (cmpS (N : Int) 0 == 0) = true then 0 else if s = true then -1 else 1 := by
  unfold cmpS sg
  cases s <;> simp <;> (repeat' split) <;> first | rfl | omega | simp_all
theorem cmp_self_sub (x y : Int) : cmpS (x - y) 0 = cmpS x y := by
  unfold cmpS
  rcases Int.lt_trichotomy x y with h | h | h
  · rw [if_pos (by omega), if_pos h]
  · rw [if_neg (by omega), if_pos (by omega), if_neg (by omega), if_pos h]
  · rw [if_neg (by omega), if_neg (by omega), if_neg (by omega), if_neg (by omega)]
theorem cmp_range (x y : Int) : cmpS x y = -1 ∧ x < y ∨ cmpS x y = 0 ∧ x = y ∨ cmpS x y = 1 ∧ y < x := by
  unfold cmpS
  rcases Int.lt_trichotomy x y with h | h | h
  · simp [h]
  · simp [h]
  · rw [if_neg (by omega), if_neg (by omega)]; simp [h]
theorem cmp_lt {x y : Int} (h : x < y) : cmpS x y = -1 := by unfold cmpS; rw [if_pos h]
theorem cmp_gt {x y : Int} (h : y < x) : cmpS x y = 1 := by unfold cmpS; rw [if_neg (by omega), if_neg (by omega)]
theorem cmp_eq {x y : Int} (h : x = y) : cmpS x y = 0 := by unfold cmpS; rw [if_neg (by omega), if_pos h]
theorem digits_inj {N M : Nat} : digits N = digits M ↔ N = M := by
  constructor
  · intro h
    have := congrArg val h
    rw [digits_val, digits_val] at this
    omega
  · intro h; rw [h]
end Nt
/-- A slice's value. -/
structure Sl where
  a : Option Addr
  n : Nat
  c : Nat
@[reducible] def Sl.v (x : Sl) : Value := .slice x.a x.n x.c
/-- An integer's value: sign, digits. -/
structure IL where
  s : Bool
  m : Sl
@[reducible] def IL.v (i : IL) : Value := .agg #[.bool i.s, .slice i.m.a i.m.n i.m.c]
/-- A rational's value: sign, digits of the numerator, of the denominator. -/
structure RL where
  s : Bool
  m : Sl
  d : Sl
def RL.cs (r : RL) : List Value := [.bool r.s, .slice r.m.a r.m.n r.m.c, .slice r.d.a r.d.n r.d.c]
def IL.cs (i : IL) : List Value := [.bool i.s, .slice i.m.a i.m.n i.m.c]
@[reducible] def RL.v (r : RL) : Value := .agg #[.bool r.s, .slice r.m.a r.m.n r.m.c, .slice r.d.a r.d.n r.d.c]
/-- A list of digits reads as N (it may have zeros at its end); at most K digits. -/
def NatV (u : World) (x : Sl) (N K : Nat) : Prop := ∃ l, SlR .u32 u x.a x.n x.c l ∧ Nt.Dig l ∧ x.n ≤ K ∧ Nt.val l = N
/-- The digits of N; at most K. -/
def NatN (u : World) (x : Sl) (N K : Nat) : Prop := x.n = dl N ∧ SlR .u32 u x.a x.n x.c (Nt.digits N) ∧ dl N ≤ K
/-- An integer as it stands (its sign may be set at 0, its list may have zeros at the end) reads as z. -/
def IntV (u : World) (i : IL) (z : Int) (K : Nat) : Prop := ∃ N, NatV u i.m N K ∧ z = Nt.sg i.s N
/-- The canonical integer z. -/
def IntN (u : World) (i : IL) (z : Int) (K : Nat) : Prop := i.s = decide (z < 0) ∧ NatN u i.m z.natAbs K
section
variable {u u' w w' : World} {x y : Sl} {i j : IL} {r : RL} {N M K L : Nat} {z z' : Int} {q : Rat}
theorem NatV.ext (h : NatV u x N K) (e : Ext u u') : NatV u' x N K := by obtain ⟨l, h1, h2⟩ := h; exact ⟨l, h1.ext e, h2⟩
theorem NatN.ext (h : NatN u x N K) (e : Ext u u') : NatN u' x N K := ⟨h.1, h.2.1.ext e, h.2.2⟩
theorem IntV.ext (h : IntV u i z K) (e : Ext u u') : IntV u' i z K := by obtain ⟨N, h1, h2⟩ := h; exact ⟨N, h1.ext e, h2⟩
theorem IntN.ext (h : IntN u i z K) (e : Ext u u') : IntN u' i z K := ⟨h.1, h.2.ext e⟩
theorem NatV.more (h : NatV u x N K) (k : K ≤ L) : NatV u x N L := by obtain ⟨l, h1, h2, h3, h4⟩ := h; exact ⟨l, h1, h2, by omega, h4⟩
theorem NatN.more (h : NatN u x N K) (k : K ≤ L) : NatN u x N L := ⟨h.1, h.2.1, Nat.le_trans h.2.2 k⟩
theorem IntV.more (h : IntV u i z K) (k : K ≤ L) : IntV u i z L := by obtain ⟨N, h1, h2⟩ := h; exact ⟨N, h1.more k, h2⟩
theorem IntN.more (h : IntN u i z K) (k : K ≤ L) : IntN u i z L := ⟨h.1, h.2.more k⟩
theorem NatN.raw (h : NatN u x N K) : NatV u x N K := ⟨_, h.2.1, Nt.digits_dig _, by have := h.2.2; rw [h.1]; exact this, Nt.digits_val _⟩
theorem IntN.raw (h : IntN u i z K) : IntV u i z K := by
  refine ⟨z.natAbs, h.2.raw, ?_⟩
  unfold Nt.sg
  rw [h.1]
  by_cases hz : z < 0
  · simp [hz]; omega
  · simp [hz]; omega
theorem NatV.size (h : NatV u x N K) : dl N ≤ K := by
  obtain ⟨l, h1, h2, h3, h4⟩ := h
  have e := Nt.strip_eq h2
  rw [h4, Int.toNat_natCast] at e
  have := Nt.strip_length_le l
  rw [e] at this
  have := h1.1
  unfold dl; omega
theorem IntV.abs (h : IntV u i z K) : NatV u i.m z.natAbs K := by
  obtain ⟨N, h1, h2⟩ := h
  have e : z.natAbs = N := by rw [h2, Nt.sg_abs]
  rw [e]; exact h1
theorem IntV.size (h : IntV u i z K) : dl z.natAbs ≤ K := h.abs.size
theorem NatN.pos (h : NatN u x N K) : 0 < x.n ↔ 0 < N := by rw [h.1]; exact Nt.dl_pos
theorem nat_nil (u : World) (K : Nat) : NatV u ⟨none, 0, 0⟩ 0 K := ⟨[], SlR.nil _ _ _ (Nat.zero_le _), Nt.Dig.nil, Nat.zero_le _, rfl⟩
theorem nat_nilN (u : World) (K : Nat) : NatN u ⟨none, 0, 0⟩ 0 K := ⟨by rw [Nt.dl_zero], by rw [Nt.digits_zero]; exact SlR.nil _ _ _ (Nat.zero_le _), by rw [Nt.dl_zero]; omega⟩
theorem int_zero (u : World) (K : Nat) : IntN u ⟨false, none, 0, 0⟩ 0 K := ⟨rfl, nat_nilN u K⟩
/-- What signed makes of a sign and digits. -/
theorem signed_int {s : Bool} (h : NatN u x N K) : IntN u ⟨s && decide ((0 : Int) < (x.n : Int)), x⟩ (Nt.sg s N) K := by
  have hn := h.pos
  refine ⟨?_, by rw [Nt.sg_abs]; exact h⟩
  unfold Nt.sg
  cases s <;> simp <;> omega
theorem IntV.same {s : Bool} (h : NatV u x N K) : IntV u ⟨s, x⟩ (Nt.sg s N) K := ⟨N, h, rfl⟩
theorem one_data {b : Nat} (h : u.heap[b]? = some (.cells #[.int .u32 1] 82 (0, 0))) : NatN u ⟨some ⟨b, 0, none⟩, 1, 1⟩ 1 1 := by
  have hk : KBlk .u32 u b 82 [1] := h
  have e : Nt.digits 1 = [1] := by
    have h1 : Nt.strip [1] = [1] := by simp [Nt.strip]
    have h2 := Nt.strip_eq (l := [1]) (Nt.Dig.cons (by omega) Nt.Dig.nil)
    rw [h1] at h2
    exact h2.symm
  exact ⟨by rw [Nt.dl_one], by rw [e]; exact hk.slr_all rfl (Nat.le_refl _) (show 1 ≤ maxLen by decide), by rw [Nt.dl_one]; exact Nat.le_refl _⟩
/-- Two digits, made. -/
theorem two_data {b : Nat} {p q : Int} (h : u.heap[b]? = some (.cells #[.int .u32 p, .int .u32 q] 82 (0, 0))) (hp : 0 ≤ p ∧ p < 4294967296) (hq : 0 ≤ q ∧ q < 4294967296) (hN : p + 4294967296 * q = N) : NatV u ⟨some ⟨b, 0, none⟩, 2, 2⟩ N 2 := by
  have hk : KBlk .u32 u b 82 [p, q] := h
  exact ⟨[p, q], hk.slr_all rfl (Nat.le_refl _) (show 2 ≤ maxLen by decide), Nt.Dig.cons hp (Nt.Dig.cons hq Nt.Dig.nil), Nat.le_refl _, by simp [Nt.val]; omega⟩
/-- A list of one digit: its address, its digit. -/
theorem nat_digit (h : NatV u x N K) (hn : x.n = 1) : ∃ b o, x.a = some ⟨b, o, none⟩ ∧ u.cell? ⟨b, o, none⟩ = some (.int .u32 N) := by
  obtain ⟨l, h1, h2, h3, h4⟩ := h
  obtain ⟨b, o, e, _, hc⟩ := h1.pos (i := 0) (by omega)
  refine ⟨b, o, e, ?_⟩
  simp only [Nat.add_zero] at hc
  rw [hc]
  have hl := h1.1
  have e2 := h4
  rw [← Nt.valTo_all l (n := 1) (by omega), Nt.valTo_succ, Nt.valTo_zero] at e2
  have : l[0]?.getD 0 = (N : Int) := by simpa [Nt.pw] using e2
  rw [this]
theorem nat_int (h : NatV u x N K) : IntV u ⟨false, x⟩ N K := ⟨N, h, rfl⟩
theorem nat_intN (h : NatN u x N K) : IntN u ⟨false, x⟩ N K := ⟨by simp, by simpa using h⟩
theorem int_mag (h : IntN u i z K) : NatN u i.m z.natAbs K := h.2
theorem over_nat {A : Option Addr} {n c : Nat} (h : NatF w w' A n c N) (hu : u.heap.size = w.heap.size) (hs : u.heap.size ≤ w'.heap.size) (hN : dl N ≤ K) : NatN (over u w') ⟨A, n, c⟩ N K := by
  obtain ⟨h1, h2, h3⟩ := h
  exact ⟨h1, h2.over (fun hp => by obtain ⟨a, e, k, _⟩ := h3 hp; exact ⟨a, e, by omega⟩) hs, hN⟩
/-- What a function of naturals answers: the digits of N, in memory made since. -/
def NatG (w w' : World) (e : Ending) (N : Nat) : Prop := ∃ A n c, e = .returned (.slice A n c) ∧ NatF w w' A n c N ∧ Below w.heap.size w w'
/-- A function that made memory, and answered the digits of N. -/
theorem post_nat {e : Ending} (d : Dat u w) (h : NatG w w' e N) (hN : dl N ≤ K) : Post u w (fun v u' => ∃ x : Sl, v = x.v ∧ NatN u' x N K) e w' := by
  obtain ⟨A, n, c, rfl, f, hb⟩ := h
  have hs : u.heap.size ≤ w'.heap.size := by rw [d.size]; exact hb.size
  exact ⟨_, over u w', rfl, over_dat d hb, hb, over_grow hs, ⟨A, n, c⟩, rfl, over_nat f d.size hs hN⟩
/-- A function that left old memory alone, and answered v. -/
theorem post_below {e : Ending} {v : Value} (d : Dat u w) (he : e = .returned v) (hb : Below w.heap.size w w') : Post u w (fun v' _ => v' = v) e w' :=
  ⟨v, over u w', he, over_dat d hb, hb, over_grow (by rw [d.size]; exact hb.size), rfl⟩
theorem below_drewN (w : World) (k : Nat) : Below w.heap.size w (w.drewN k) := ⟨rfl, rfl, rfl, Nat.le_refl _, fun _ _ => rfl⟩
theorem nat_fits {A : Option Addr} {n c : Nat} {e : Ending} {t : Int} (h : e = .returned (.slice A n c) ∧ NatF w w' A n c t.toNat ∧ Below w.heap.size w w') (ht : t = (N : Int)) : NatG w w' e N := by
  subst ht; rw [Int.toNat_natCast] at h; exact ⟨A, n, c, h⟩
/-- What a division answers. -/
def DivN (N M K L : Nat) (v : Value) (u : World) : Prop := ∃ x y : Sl, v = .tuple #[x.v, y.v, .int .i64 0] ∧ NatN u x (N / M) K ∧ NatN u y (N % M) L
theorem post_div {e : Ending} (d : Dat u w) (h : DivMF w w' e (N : Int) (M : Int)) (hK : dl N ≤ K) (hL : dl M ≤ L) (hM : 0 < M) : Post u w (DivN N M K L) e w' := by
  obtain ⟨A1, n1, c1, A2, n2, c2, rfl, f, g, hb⟩ := h
  rw [← Int.natCast_ediv, Int.toNat_natCast] at f
  rw [← Int.natCast_emod, Int.toNat_natCast] at g
  have hs : u.heap.size ≤ w'.heap.size := by rw [d.size]; exact hb.size
  exact ⟨_, over u w', rfl, over_dat d hb, hb, over_grow hs, ⟨A1, n1, c1⟩, ⟨A2, n2, c2⟩, rfl, over_nat f d.size hs (Nat.le_trans (Nt.dl_mono (Nat.div_le_self _ _)) hK), over_nat g d.size hs (Nat.le_trans (Nt.dl_mono (Nat.le_of_lt (Nat.mod_lt _ hM))) hL)⟩
theorem k_natAdd (d : Dat u w) (h1 : NatV u x N K) (h2 : NatV u y M L) (hK : K ≤ 500000000) (hL : L ≤ 500000000) : Calls Try.prog 108 #[x.v, y.v] w (Post u w fun v u' => ∃ x : Sl, v = x.v ∧ NatN u' x (N + M) (max K L + 1)) := by
  have hs1 := h1.size
  have hs2 := h2.size
  obtain ⟨a, a1, a2, a3, a4⟩ := h1
  obtain ⟨b, b1, b2, b3, b4⟩ := h2
  refine (Add_any _ _ _ _ _ _ _ _ _ (a1.ext d.ext) (b1.ext d.ext) a2 b2 (by omega) (by omega)).mono fun e w' ⟨A', n', c', h⟩ => ?_
  rw [a4, b4] at h
  exact post_nat d (nat_fits h (by omega)) (by have := Nt.dl_add N M; omega)
theorem k_natSub (d : Dat u w) (h1 : NatV u x N K) (h2 : NatV u y M L) (hK : K ≤ 500000000) (hL : L ≤ 500000000) : Calls Try.prog 109 #[x.v, y.v] w (Post u w fun v u' => ∃ x : Sl, v = x.v ∧ NatN u' x (N - M) (K)) := by
  have hs1 := h1.size
  have hs2 := h2.size
  obtain ⟨a, a1, a2, a3, a4⟩ := h1
  obtain ⟨b, b1, b2, b3, b4⟩ := h2
  refine (Sub_any _ _ _ _ _ _ _ _ _ (a1.ext d.ext) (b1.ext d.ext) a2 b2 (by omega) (by omega)).mono fun e w' ⟨A', n', c', h⟩ => ?_
  rw [a4, b4] at h
  exact post_nat d (by rw [show ((N : Int) - (M : Int)).toNat = N - M by omega] at h; exact ⟨A', n', c', h⟩) (by have := Nt.dl_mono (Nat.sub_le N M); omega)
theorem k_natMul (d : Dat u w) (h1 : NatV u x N K) (h2 : NatV u y M L) (hK : K ≤ 500000000) (hL : L ≤ 500000000) : Calls Try.prog 77 #[x.v, y.v] w (Post u w fun v u' => ∃ x : Sl, v = x.v ∧ NatN u' x (N * M) (K + L)) := by
  have hs1 := h1.size
  have hs2 := h2.size
  obtain ⟨a, a1, a2, a3, a4⟩ := h1
  obtain ⟨b, b1, b2, b3, b4⟩ := h2
  refine (Mul_any _ _ _ _ _ _ _ _ _ (a1.ext d.ext) (b1.ext d.ext) a2 b2 (by omega) (by omega)).mono fun e w' ⟨A', n', c', h⟩ => ?_
  rw [a4, b4] at h
  exact post_nat d (nat_fits h (Int.natCast_mul N M).symm) (by have := Nt.dl_mul N M; omega)
theorem k_natGcd (d : Dat u w) (h1 : NatV u x N K) (h2 : NatV u y M L) (hK : K ≤ 500000000) (hL : L ≤ 500000000) : Calls Try.prog 115 #[x.v, y.v] w (Post u w fun v u' => ∃ x : Sl, v = x.v ∧ NatN u' x (Nat.gcd N M) (max K L)) := by
  have hs1 := h1.size
  have hs2 := h2.size
  obtain ⟨a, a1, a2, a3, a4⟩ := h1
  obtain ⟨b, b1, b2, b3, b4⟩ := h2
  refine (Gcd_any _ _ _ _ _ _ _ _ _ (a1.ext d.ext) (b1.ext d.ext) a2 b2 (by omega) (by omega)).mono fun e w' ⟨A', n', c', h⟩ => ?_
  rw [a4, b4] at h
  exact post_nat d (by rw [Int.toNat_natCast, Int.toNat_natCast] at h; exact ⟨A', n', c', h⟩) (by
    rcases Nat.eq_zero_or_pos M with h0 | h0
    · rw [h0, Nat.gcd_zero_right]; omega
    · have := Nt.dl_mono (Nat.gcd_le_right N h0); omega)
theorem k_natTrim (d : Dat u w) (h1 : NatV u x N K) (hK : K ≤ 500000000) : Calls Try.prog 117 #[x.v] w (Post u w fun v u' => ∃ x : Sl, v = x.v ∧ NatN u' x N K) := by
  have hs1 := h1.size
  obtain ⟨a, a1, a2, a3, a4⟩ := h1
  refine (Trim_any _ _ _ _ _ (a1.ext d.ext) a2 (by omega)).mono fun e w' ⟨A', n', c', h⟩ => ?_
  rw [a4] at h
  exact post_nat d (nat_fits h rfl) hs1
theorem k_natDivMod (d : Dat u w) (h1 : NatV u x N K) (h2 : NatV u y M L) (hM : 0 < M) (hK : K ≤ 500000000) (hL : L ≤ 500000000) : Calls Try.prog 113 #[x.v, y.v] w (Post u w (DivN N M K L)) := by
  have hs1 := h1.size
  have hs2 := h2.size
  obtain ⟨a, a1, a2, a3, a4⟩ := h1
  obtain ⟨b, b1, b2, b3, b4⟩ := h2
  refine (DivMod_any _ _ _ _ _ _ _ _ _ (a1.ext d.ext) (b1.ext d.ext) a2 b2 (by omega) (by omega)).mono fun e w' h => ?_
  rw [a4, b4] at h
  exact post_div d h hs1 hs2 hM
theorem k_rnAdd (d : Dat u w) (h1 : NatV u x N K) (h2 : NatV u y M L) (hK : K ≤ 500000000) (hL : L ≤ 500000000) : Calls Try.prog 102 #[x.v, y.v] w (Post u w fun v u' => ∃ x : Sl, v = x.v ∧ NatN u' x (N + M) (max K L + 1)) := by
  have hs1 := h1.size
  have hs2 := h2.size
  obtain ⟨a, a1, a2, a3, a4⟩ := h1
  obtain ⟨b, b1, b2, b3, b4⟩ := h2
  refine (rAdd_any _ _ _ _ _ _ _ _ _ (a1.ext d.ext) (b1.ext d.ext) a2 b2 (by omega) (by omega)).mono fun e w' ⟨A', n', c', h⟩ => ?_
  rw [a4, b4] at h
  exact post_nat d (nat_fits h (by omega)) (by have := Nt.dl_add N M; omega)
theorem k_rnSub (d : Dat u w) (h1 : NatV u x N K) (h2 : NatV u y M L) (hK : K ≤ 500000000) (hL : L ≤ 500000000) : Calls Try.prog 104 #[x.v, y.v] w (Post u w fun v u' => ∃ x : Sl, v = x.v ∧ NatN u' x (N - M) (K)) := by
  have hs1 := h1.size
  have hs2 := h2.size
  obtain ⟨a, a1, a2, a3, a4⟩ := h1
  obtain ⟨b, b1, b2, b3, b4⟩ := h2
  refine (rSub_any _ _ _ _ _ _ _ _ _ (a1.ext d.ext) (b1.ext d.ext) a2 b2 (by omega) (by omega)).mono fun e w' ⟨A', n', c', h⟩ => ?_
  rw [a4, b4] at h
  exact post_nat d (by rw [show ((N : Int) - (M : Int)).toNat = N - M by omega] at h; exact ⟨A', n', c', h⟩) (by have := Nt.dl_mono (Nat.sub_le N M); omega)
theorem k_rnMul (d : Dat u w) (h1 : NatV u x N K) (h2 : NatV u y M L) (hK : K ≤ 500000000) (hL : L ≤ 500000000) : Calls Try.prog 105 #[x.v, y.v] w (Post u w fun v u' => ∃ x : Sl, v = x.v ∧ NatN u' x (N * M) (K + L)) := by
  have hs1 := h1.size
  have hs2 := h2.size
  obtain ⟨a, a1, a2, a3, a4⟩ := h1
  obtain ⟨b, b1, b2, b3, b4⟩ := h2
  refine (rMul_any _ _ _ _ _ _ _ _ _ (a1.ext d.ext) (b1.ext d.ext) a2 b2 (by omega) (by omega)).mono fun e w' ⟨A', n', c', h⟩ => ?_
  rw [a4, b4] at h
  exact post_nat d (nat_fits h (Int.natCast_mul N M).symm) (by have := Nt.dl_mul N M; omega)
theorem k_rnGcd (d : Dat u w) (h1 : NatV u x N K) (h2 : NatV u y M L) (hK : K ≤ 500000000) (hL : L ≤ 500000000) : Calls Try.prog 121 #[x.v, y.v] w (Post u w fun v u' => ∃ x : Sl, v = x.v ∧ NatN u' x (Nat.gcd N M) (max K L)) := by
  have hs1 := h1.size
  have hs2 := h2.size
  obtain ⟨a, a1, a2, a3, a4⟩ := h1
  obtain ⟨b, b1, b2, b3, b4⟩ := h2
  refine (rGcd_any _ _ _ _ _ _ _ _ _ (a1.ext d.ext) (b1.ext d.ext) a2 b2 (by omega) (by omega)).mono fun e w' ⟨A', n', c', h⟩ => ?_
  rw [a4, b4] at h
  exact post_nat d (by rw [Int.toNat_natCast, Int.toNat_natCast] at h; exact ⟨A', n', c', h⟩) (by
    rcases Nat.eq_zero_or_pos M with h0 | h0
    · rw [h0, Nat.gcd_zero_right]; omega
    · have := Nt.dl_mono (Nat.gcd_le_right N h0); omega)
theorem k_rnTrim (d : Dat u w) (h1 : NatV u x N K) (hK : K ≤ 500000000) : Calls Try.prog 97 #[x.v] w (Post u w fun v u' => ∃ x : Sl, v = x.v ∧ NatN u' x N K) := by
  have hs1 := h1.size
  obtain ⟨a, a1, a2, a3, a4⟩ := h1
  refine (rTrim_any _ _ _ _ _ (a1.ext d.ext) a2 (by omega)).mono fun e w' ⟨A', n', c', h⟩ => ?_
  rw [a4] at h
  exact post_nat d (nat_fits ⟨h.1, h.2.1.nat, h.2.2⟩ rfl) hs1
theorem k_rnDivMod (d : Dat u w) (h1 : NatV u x N K) (h2 : NatV u y M L) (hM : 0 < M) (hK : K ≤ 500000000) (hL : L ≤ 500000000) : Calls Try.prog 122 #[x.v, y.v] w (Post u w (DivN N M K L)) := by
  have hs1 := h1.size
  have hs2 := h2.size
  obtain ⟨a, a1, a2, a3, a4⟩ := h1
  obtain ⟨b, b1, b2, b3, b4⟩ := h2
  refine (rDivMod_any _ _ _ _ _ _ _ _ _ (a1.ext d.ext) (b1.ext d.ext) a2 b2 (by omega) (by omega) (by omega)).mono fun e w' h => ?_
  rw [a4, b4] at h
  exact post_div d h hs1 hs2 hM
theorem k_natCompare (d : Dat u w) (h1 : NatV u x N K) (h2 : NatV u y M L) : Calls Try.prog 75 #[x.v, y.v] w (Post u w fun v _ => v = .int .i64 (Nt.cmpS N M)) := by
  obtain ⟨a, a1, a2, a3, a4⟩ := h1
  obtain ⟨b, b1, b2, b3, b4⟩ := h2
  refine (Compare_any _ _ _ _ _ _ _ _ _ (a1.ext d.ext) (b1.ext d.ext) a2 b2).mono fun e w' ⟨h, k, hk⟩ => ?_
  rw [a4, b4] at h
  exact post_below d h (by rw [hk]; exact below_drewN w k)
theorem k_rnCompare (d : Dat u w) (h1 : NatV u x N K) (h2 : NatV u y M L) (hK : K ≤ 500000000) (hL : L ≤ 500000000) : Calls Try.prog 103 #[x.v, y.v] w (Post u w fun v _ => v = .int .i64 (Nt.cmpS N M)) := by
  obtain ⟨a, a1, a2, a3, a4⟩ := h1
  obtain ⟨b, b1, b2, b3, b4⟩ := h2
  refine (rCompare_any _ _ _ _ _ _ _ _ _ (a1.ext d.ext) (b1.ext d.ext) a2 b2 (by omega) (by omega)).mono fun e w' ⟨h, hb⟩ => ?_
  rw [a4, b4] at h
  exact post_below d h hb
theorem k_rnSame (d : Dat u w) (h1 : NatN u x N K) (h2 : NatN u y M L) : Calls Try.prog 95 #[x.v, y.v] w (Post u w fun v _ => v = .bool (decide (N = M))) := by
  refine (rSame_any _ _ _ _ _ _ _ _ _ (h1.2.1.ext d.ext) (h2.2.1.ext d.ext)).mono fun e w' ⟨h, k, hk⟩ => ?_
  have e2 : decide (Nt.digits N = Nt.digits M) = decide (N = M) := by rw [decide_eq_decide]; exact Nt.digits_inj
  rw [e2] at h
  exact post_below d h (by rw [hk]; exact below_drewN w k)
end
end Go.Proofs.Ytnedhbidmfoegaa

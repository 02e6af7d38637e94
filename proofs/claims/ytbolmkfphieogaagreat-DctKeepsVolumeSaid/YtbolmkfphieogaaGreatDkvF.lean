/- Parts of the proof: contracts of functions, each walked once, and plain laws. -/
import Derived.Test.YtbolmkfphieogaaGreatDkvE
import Derived.IntWalk
import Derived.ScopeJumps
namespace Go.Proofs.YtbolmkfphieogaaGreat
open Go.RowKit
set_option linter.unusedVariables false
namespace Nt
def divO (x1 x2 y1 y2 : Rat) : Option (Rat × Rat) := if sgI y1 y2 = 0 then none else some (lo4 (x1 / y1) (x1 / y2) (x2 / y1) (x2 / y2), hi4 (x1 / y1) (x1 / y2) (x2 / y1) (x2 / y2))
def divE (y1 y2 : Rat) : Int := if sgI y1 y2 = 0 then 3 else 0
def rndO (x1 x2 : Rat) (n : Int) : Option (Rat × Rat) := if n < 0 ∨ 256 < n then none else some (dnQ (lo x1 x2) n.toNat, -dnQ (-hi x1 x2) n.toNat)
def rndE (n : Int) : Int := if n < 0 ∨ 256 < n then 1 else 0
end Nt
def OptI (u : World) (a b : RL) (o : Option (Rat × Rat)) (K : Nat) : Prop := match o with | none => a = rl0 ∧ b = rl0 | some (p, q) => RatN u a p K ∧ RatN u b q K
theorem OptI.ext {u u' : World} {a b : RL} {o : Option (Rat × Rat)} {K : Nat} (h : OptI u a b o K) (e : Ext u u') : OptI u' a b o K := by
 cases o with
 | none => exact h
 | some x => exact ⟨h.1.ext e, h.2.ext e⟩
theorem k_ivDivO {u w : World} {a1 a2 b1 b2 : RL} {x1 x2 y1 y2 : Rat} {K L : Nat} (d : Dat u w) (ha1 : RatV u a1 x1 K) (ha2 : RatV u a2 x2 K) (hb1 : RatV u b1 y1 L) (hb2 : RatV u b2 y2 L) (hK : K ≤ 4000000) (hL : L ≤ 4000000) : Calls Tryz.prog 136 #[IV a1 a2, IV b1 b2] w (Post u w fun v u' => ∃ p q : RL, v = .tuple #[IV p q, .int .i64 (Nt.divE y1 y2)] ∧ OptI u' p q (Nt.divO x1 x2 y1 y2) (K + L + 20)) :=
 Post.mono (k_ivDiv d ha1 ha2 hb1 hb2 xq xq) fun v u' _ h => by
  rcases h with ⟨h0, h1⟩ | ⟨h0, p, q, h1, h2, h3⟩
  ·exact ⟨rl0, rl0, by unfold Nt.divE; rw [if_pos h0, h1]; rfl, by unfold Nt.divO; rw [if_pos h0]; exact ⟨rfl, rfl⟩⟩
  ·exact ⟨p, q, by unfold Nt.divE; rw [if_neg h0, h1], by unfold Nt.divO; rw [if_neg h0]; exact ⟨h2.more xq, h3.more xq⟩⟩
set_option maxHeartbeats 1000000 in
theorem k_ivRoundG {u w : World} {a1 a2 : RL} {x1 x2 : Rat} {K : Nat} {k : Nat} (hk : k ≤ 256) (d : Dat u w) (ha1 : RatV u a1 x1 K) (ha2 : RatV u a2 x2 K) (hK : K ≤ 100000) : Calls Tryz.prog 227 #[IV a1 a2, .int .i64 (k : Int)] w (Post u w fun v u' => ∃ p q : RL, v = .tuple #[IV p q, .int .i64 (Nt.rndE (k : Int))] ∧ OptI u' p q (Nt.rndO x1 x2 (k : Int)) (K + 70)) := by
 refine zzl (args := [.agg #[.bool a1.s, .slice a1.m.a a1.m.n a1.m.c, .slice a1.d.a a1.d.n a1.d.c, .bool a2.s, .slice a2.m.a a2.m.n a2.m.c, .slice a2.d.a a2.d.n a2.d.c], .int .i64 k]) Tryz.func227 rfl Tryz.ntmps227 (rs := [.cell 4 32, .tmp 5]) Tryz.results227 (le_b rfl) (le_b rfl) d ?_
 refine sq9 (zzj 2 ⟨32, a1.cs ++ a2.cs⟩ (zzj 4 ⟨32, [.bool false, .slice none 0 0, .slice none 0 0, .bool false, .slice none 0 0, .slice none 0 0]⟩ (zza 5 (zI 0) (zzb (zzd (sq9 (zza 12 (zI k) (zza 13 (zB (decide ((k : Int) < 0))) (zyp 14 (x := zB (decide ((k : Int) < 0))) (zB false) (by rw [show (decide ((k : Int) < 0)) = false from decide_eq_false xq]) (zza 15 (zI k) ?_ (hw := w1 2 false 14)))))))))))
 refine zza 16 (zB (decide ((256 : Int) < (k : Int)))) ?_ (hw := w1 2 false 14)
 refine zza 17 (zB (decide ((256 : Int) < (k : Int)))) (zzb (zzt (b := decide ((256 : Int) < (k : Int))) xj (fun hb => ?_) (fun hb => ?_)))
 ·exact absurd hb (by rw [show (decide ((256 : Int) < (k : Int))) = false from decide_eq_false xq]; decide)
 ·clear hb
  refine zzr (zzo ?_)
  refine sq9 (zzh 20 (.v (.agg #[.bool a1.s, a1.m.v, a1.d.v, .bool a2.s, a2.m.v, a2.d.v])) ty32 zze (zzg 21 208 [.agg #[.bool a1.s, a1.m.v, a1.d.v, .bool a2.s, a2.m.v, a2.d.v]] ?_))
  intro w12 u12 e12 d12
  have k19 := k_ends d12 (ha1.ext e12) (ha2.ext e12) xq
  with_reducible refine zPm k19 ?_
  rintro _ u17 g18 ⟨r13, r15, rfl, h14, h16⟩
  refine zza 19 (.v (.tuple #[r13.v, r15.v])) (zza 22 (.v (r13.v)) (zza 23 (.v (r15.v)) (zzj 6 ⟨26, [.bool false, .slice none 0 0, .slice none 0 0]⟩ (zzj 7 ⟨26, [.bool false, .slice none 0 0, .slice none 0 0]⟩ (zzi ⟨26, r13.cs⟩ ty26 ?_)))))
  refine zzi ⟨26, r15.cs⟩ ty26 ?_
  refine zzb (sq9 (zzh 25 (.v (r13.v)) ty26 zze (zza 26 (zI k) (zzg 27 252 [r13.v, .int .i64 k] ?_))))
  intro w20 u20 e20 d20
  have k25 := k_downG (k := k) xq d20 (h14.ext e20) xq
  with_reducible refine zPm k25 ?_
  rintro _ u23 g24 ⟨r21, rfl, h22⟩
  refine zza 24 (.v (.tuple #[r21.v, .int .i64 0])) (zza 28 (.v (r21.v)) (zza 29 (zI 0) (zzj 8 ⟨26, [.bool false, .slice none 0 0, .slice none 0 0]⟩ (zzi ⟨26, r21.cs⟩ ty26 ?_))))
  refine zza 9 (zI 0) (zzb (sq9 (zzh 31 (.v (r15.v)) ty26 zze (zza 32 (zI k) (zzg 33 253 [r15.v, .int .i64 k] ?_)))))
  intro w26 u26 e26 d26
  have k31 := k_upG (k := k) xq d26 (h16.ext (e20.trans (g24.ext.trans e26))) xq
  with_reducible refine zPm k31 ?_
  rintro _ u29 g30 ⟨r27, rfl, h28⟩
  refine zza 30 (.v (.tuple #[r27.v, .int .i64 0])) (zza 34 (.v (r27.v)) (zza 35 (zI 0) (zzj 10 ⟨26, [.bool false, .slice none 0 0, .slice none 0 0]⟩ (zzi ⟨26, r27.cs⟩ ty26 ?_))))
  refine zza 11 (zI 0) (zzc 39 [(4, .adr 4 0), (8, .adr 8 0), (10, .adr 10 0)] [(4, ⟨32, [.bool false, .slice none 0 0, .slice none 0 0, .bool false, .slice none 0 0, .slice none 0 0]⟩), (8, ⟨26, r21.cs⟩), (10, ⟨26, r27.cs⟩)] (sq9 (zzh 36 (.v (r21.v)) ty26 zze (zzh 37 (.v (r27.v)) ty26 zze (zza 38 (.v (.agg #[.bool r21.s, r21.m.v, r21.d.v, .bool r27.s, r27.m.v, r27.d.v])) (zzi ⟨32, r21.cs ++ r27.cs⟩ ty32 ?_))))))
  refine zza 5 (zI 0) (zzb (zzn (ret0 [.agg #[.bool r21.s, .slice r21.m.a r21.m.n r21.m.c, .slice r21.d.a r21.d.n r21.d.c, .bool r27.s, .slice r27.m.a r27.m.n r27.m.c, .slice r27.d.a r27.d.n r27.d.c], .int .i64 0] ⟨zzq ty32 zze, zzp, trivial⟩ fun u32 e33 => ?_)))
  have h9 : ¬ ((k : Int) < 0 ∨ 256 < (k : Int)) := by omega
  refine ⟨r21, r27, by unfold Nt.rndE; rw [if_neg h9]; rfl, ?_⟩
  unfold Nt.rndO
  rw [if_neg h9, Int.toNat_natCast]
  exact ⟨RatN.more (K := (K + 20)) (h22.ext (e26.trans (g30.ext.trans e33))) xq, RatN.more (K := (K + 20)) (h28.ext e33) xq⟩
@[reducible] def SP (a b : IL) : Value := .agg #[.bool a.s, .slice a.m.a a.m.n a.m.c, .bool b.s, .slice b.m.a b.m.n b.m.c]
namespace Nt
theorem pw_u2 (k : Nat) : pw k = u2 (32 * k) := by
 induction k with
 | zero => rfl
 | succ k ih =>
  have h : u2 (32 * (k + 1)) = u2 (32 * k) * u2 32 := by rw [← u2_add]; rfl
  have e : u2 32 = 4294967296 := by decide +kernel
  show 4294967296 * pw k = _
  rw [ih, h, e, Int.mul_comm]
theorem dl_u2 {z : Int} {L b : Nat} (h0 : -(u2 b) ≤ z) (h1 : z ≤ u2 b) (h : b < 32 * L) : dl z.natAbs ≤ L := by
 refine dl_le ?_
 rw [pw_u2]
 have h2 := u2_mono (a := b + 1) (b := 32 * L) xq
 have h3 : u2 (b + 1) = u2 b * 2 := u2_add b 1
 have h4 := u2_pos b
 omega
theorem big {w : Nat} (hw : w ≤ 800) : 8 * u2 w + 1152921504606846976 ≤ u2 1000 := by
 have h1 := u2_mono hw
 have h2 : 8 * u2 800 + 1152921504606846976 ≤ u2 1000 := by decide +kernel
 omega
theorem cmp_le (x y : Int) : decide (cmpS x y ≤ 0) = decide (x ≤ y) := by
 rw [decide_eq_decide]
 rcases cmp_range x y with ⟨e, h⟩ | ⟨e, h⟩ | ⟨e, h⟩ <;> rw [e] <;> omega
theorem cmp_ne (x y : Int) : (cmpS x y != 0) = decide (x ≠ y) := by
 rcases cmp_range x y with ⟨e, h⟩ | ⟨e, h⟩ | ⟨e, h⟩ <;> rw [e] <;> simp <;> omega
theorem csW_le {w : Nat} (hw : w ≤ 800) : csW w * ((w : Int) + 4) + 2 ≤ 1000000000 ∧ 0 ≤ csW w * ((w : Int) + 2) ∧ csW w * ((w : Int) + 2) ≤ 1000000000 := by
 have h0 : 0 ≤ csW w := by unfold csW; omega
 have h1 : csW w ≤ 411211 := by unfold csW; omega
 have h2 := Int.mul_le_mul h1 (show (w : Int) + 4 ≤ 804 by omega) xq xw
 have h3 := Int.mul_le_mul_of_nonneg_left (show (w : Int) + 2 ≤ (w : Int) + 4 by omega) h0
 have h4 := Int.mul_nonneg h0 (show 0 ≤ (w : Int) + 2 by omega)
 omega
theorem width_lt {lo hi : Int} {g w : Nat} (h : hi - lo ≤ 1000000000) (hw : g + 37 ≤ w) : hi - lo < u2 (w - g) := by
 have h1 := u2_mono (a := 37) (b := w - g) xq
 have h2 : u2 37 = 137438953472 := by decide +kernel
 omega
theorem atR_bd {n w : Nat} {a b : Int} (h : AtR n w a b) (hn : 0 < n) : -(5 * (w : Int) + 8) ≤ a ∧ a ≤ u2 w ∧ 0 ≤ b ∧ b ≤ u2 w + 5 * (w : Int) + 8 ∧ a ≤ b := by
 obtain ⟨⟨N, h1⟩, h2⟩ := h
 have h3 := h1 (N + 1) xq
 have k1 := atT_b (n := n) hn (m := N + 1) xq
 have k2 := atT_le hn 0
 have hU := castI_pos (u2_pos w)
 have h4 : alt (atT n) (N + 1) ≤ 1 := by
  refine Rat.le_trans k1.2 ?_
  refine Rat.le_trans (div_le_self (atP_nn hn 0) (cast_one xq)) ?_
  show 1 / (n : Rat) ≤ 1
  exact div_le_self xw (cast_one hn)
 have h5 := h3.lo_le (c := u2 w) (by
  have := Rat.mul_le_mul_of_nonneg_right h4 (Rat.le_of_lt hU)
  rwa [Rat.one_mul] at this)
 have h6 := h3.nonneg (by grind) (u2_pos w)
 have := h3.le
 omega
theorem coD_mul {j : Nat} (h : j ≤ 1000) : IntKind.i64.wrap (((2 * j + 2 : Nat) : Int) * ((2 * j + 2 - 1 : Nat) : Int)) = coD j ∧ coD j ≤ 10000000 := by
 have h1 := Nat.mul_le_mul (show 2 * j + 2 ≤ 2002 by omega) (show 2 * j + 1 ≤ 2001 by omega)
 have e : ((2 * j + 2 : Nat) : Int) * ((2 * j + 2 - 1 : Nat) : Int) = coD j := by
  unfold coD
  rw [Int.natCast_mul, show 2 * j + 2 - 1 = 2 * j + 1 by omega]
 have h2 : coD j ≤ 10000000 := by unfold coD; omega
 have h3 := coD_pos j
 rw [e]
 exact ⟨IntWalk.i64_in _ xq, h2⟩
theorem csR_bd {p q w : Nat} {a b : Int} (h : CsR p q w a b) (h0 : 0 < q) (hp : 2 * p ≤ q) (hw : w ≤ 800) : -(3 * u2 w) - 1000000000 ≤ a ∧ a ≤ 3 * u2 w ∧ -(3 * u2 w) ≤ b ∧ b ≤ 3 * u2 w + 1000000000 ∧ a ≤ b ∧ b - a ≤ 1000000000 := by
 have h9 := csW_le hw
 obtain ⟨⟨N, h1⟩, h2⟩ := h
 have h3 := h1 (N + 1) xq
 have h4 := cs_bd (N := N) (m := N + 1) h0 hp xq xq h3
 have := h3.le
 omega
theorem flo_of {X : Nat → Rat} {b w : Nat} {lo hi : Int} (h : ∃ N : Nat, ∀ m, N ≤ m → Enc (u2 w) lo hi (X m)) (hb : b ≤ w) (he : (cmpS (lo / u2 (w - b)) (hi / u2 (w - b)) != 0) = false) : lo / u2 (w - b) = flo X b := by
 rw [cmp_ne] at he
 have h1 : lo / u2 (w - b) = hi / u2 (w - b) := by simpa using he
 exact (FlO.of h hb rfl h1.symm).flo.symm
theorem not_yet {X : Nat → Rat} {b g w : Nat} {lo hi : Int} (hg : Gap X b g) (h : ∃ N : Nat, ∀ m, N ≤ m → Enc (u2 w) lo hi (X m)) (hw : hi - lo ≤ 1000000000) (he : (cmpS (lo / u2 (w - b)) (hi / u2 (w - b)) != 0) = true) : w < g + 37 := by
 rcases Nat.lt_or_ge w (g + 37) with k | k
 ·exact k
 ·have := hg.decides h xq (width_lt hw k)
  rw [cmp_ne] at he
  exact absurd this (by simpa using he)
theorem dnQ_int (z : Int) (b : Nat) : dnQ (z : Rat) b = (z : Rat) := by
 unfold dnQ
 have e : (z : Rat) * ((2 ^ b : Nat) : Rat) = ((z * ((2 ^ b : Nat) : Int) : Int) : Rat) := by rw [Rat.intCast_mul]; rfl
 have f : flr ((z * ((2 ^ b : Nat) : Int) : Int) : Rat) = z * ((2 ^ b : Nat) : Int) := by
  unfold flr
  show (z * ((2 ^ b : Nat) : Int)) / ((1 : Nat) : Int) = _
  exact Int.ediv_one _
 have hp : (2 ^ b : Nat) ≠ 0 := by have := Nat.pow_pos (n := b) (show 0 < 2 by decide); omega
 rw [e, f, Rat.mkRat_eq_div, Rat.intCast_mul]
 show (z : Rat) * ((2 ^ b : Nat) : Rat) / ((2 ^ b : Nat) : Rat) = _
 have : ((2 ^ b : Nat) : Rat) ≠ 0 := by
  have := cast_pos (Nat.pow_pos (n := b) (show 0 < 2 by decide))
  grind
 generalize ((2 ^ b : Nat) : Rat) = x at *
 grind
theorem rnd_pt {q : Rat} {k : Nat} (hk : k ≤ 256) : rndO (lo q q) (hi q q) (k : Int) = some (dnQ q k, -dnQ (-q) k) := by
 unfold rndO
 have e := lo_of_le (Rat.le_refl (a := q))
 rw [if_neg (show ¬ ((k : Int) < 0 ∨ 256 < (k : Int)) by omega), e.1, e.2, e.1, e.2, Int.toNat_natCast]
theorem cosA_0 {r q b : Nat} (h : r = 0) : cosA r q b = (dnQ ((1 : Int) : Rat) b, -dnQ (-((1 : Int) : Rat)) b) := by
 have e : -((1 : Int) : Rat) = ((-1 : Int) : Rat) := rfl
 unfold cosA
 rw [if_pos h, dnQ_int, e, dnQ_int]; rfl
theorem cosA_h {r q b : Nat} (h : ¬ r = 0) (h2 : 2 * r = q) : cosA r q b = (dnQ ((0 : Int) : Rat) b, -dnQ (-((0 : Int) : Rat)) b) := by
 have e : -((0 : Int) : Rat) = ((0 : Int) : Rat) := rfl
 unfold cosA
 rw [if_neg h, if_pos h2, e, dnQ_int]; rfl
theorem cosA_3 {r q b : Nat} (h : ¬ r = 0) (h2 : ¬ 2 * r = q) (h3 : 3 * r = q) : cosA r q b = (dnQ (((1 : Int) : Rat) / ((2 : Int) : Rat)) b, -dnQ (-(((1 : Int) : Rat) / ((2 : Int) : Rat))) b) := by
 unfold cosA
 rw [if_neg h, if_neg h2, if_pos h3]; rfl
theorem cosA_g {r q b : Nat} (h : ¬ r = 0) (h2 : ¬ 2 * r = q) (h3 : ¬ 3 * r = q) : cosA r q b = (gr b (flo (coN r q) b), gr b (flo (coN r q) b + 1)) := by
 unfold cosA
 rw [if_neg h, if_neg h2, if_neg h3]
theorem cosV_lo {p : Int} {q b r : Nat} (h : fold p q = r) (h2 : ¬ q < 2 * r) : cosV p q b = cosA r q b := by
 unfold cosV cosF; rw [h, if_neg h2]
theorem cosV_hi {p : Int} {q b r : Nat} (h : fold p q = r) (h2 : q < 2 * r) : cosV p q b = (-(cosA (q - r) q b).2, -(cosA (q - r) q b).1) := by
 unfold cosV cosF; rw [h, if_pos h2]
theorem fold_id {r q : Nat} (h : r ≤ q) : fold (r : Int) q = r := by
 unfold fold
 dsimp only
 rcases Nat.eq_zero_or_pos q with h0 | h0
 ·have : r = 0 := by omega
  subst this; subst h0; rfl
 ·rw [Int.tmod_eq_of_lt xq xq, if_neg xq]
  omega
theorem tmod_bd (p : Int) {q : Nat} (hq : 0 < q) : -(2 * (q : Int)) < Int.tmod p (2 * (q : Int)) ∧ Int.tmod p (2 * (q : Int)) < 2 * (q : Int) := ⟨Int.lt_tmod_of_pos p xq, Int.tmod_lt_of_pos p xq⟩
end Nt
theorem IntN.fit {u : World} {i : IL} {z : Int} {K L : Nat} (h : IntN u i z K) (k : dl z.natAbs ≤ L) : IntN u i z L := ⟨h.1, h.2.1, h.2.2.1, k⟩
theorem IntN.lim {u : World} {i : IL} {z : Int} {K : Nat} (h : IntN u i z K) (h0 : -(Nt.u2 1000) ≤ z) (h1 : z ≤ Nt.u2 1000) : IntN u i z 40 := h.fit (Nt.dl_u2 h0 h1 xw)
theorem IntN.lim2 {u : World} {i : IL} {z : Int} {K : Nat} (h : IntN u i z K) (h0 : -(Nt.u2 1000) ≤ z) (h1 : z ≤ Nt.u2 1000) : IntN u i z 42 := (h.lim h0 h1).more xw
end Go.Proofs.YtbolmkfphieogaaGreat
namespace Go.Proofs.YtbolmkfphieogaaGreat
set_option linter.unusedVariables false
namespace Nt
def irt (n : Nat) : Nat → Nat
 | 0 => 0
 | N + 1 => if (irt n N + 1) ^ n ≤ N + 1 then irt n N + 1 else irt n N
end Nt
end Go.Proofs.YtbolmkfphieogaaGreat
namespace Go.Proofs.YtbolmkfphieogaaGreat
open Go.RowKit
set_option linter.unusedVariables false
set_option maxRecDepth 20000
namespace Nt
def rtD (q : Rat) (n b : Nat) : Nat := q.num.natAbs * 2 ^ (n * b) / q.den
def rtN (q : Rat) (n b : Nat) : Nat := irt n (rtD q n b)
def rtX (q : Rat) (n b : Nat) : Prop := q.num.natAbs * 2 ^ (n * b) % q.den = 0 ∧ rtN q n b ^ n = rtD q n b
instance (q : Rat) (n b : Nat) : Decidable (rtX q n b) := by unfold rtX; infer_instance
theorem flo_of2 {X : Nat → Rat} {b w : Nat} {lo hi z : Int} (h : ∃ N : Nat, ∀ m, N ≤ m → Enc (u2 w) lo hi (X m)) (hb : b ≤ w) (h1 : lo / u2 (w - b) = z) (h2 : hi / u2 (w - b) = z) : flo X b = z := (FlO.of h hb h1 h2).flo
end Nt
end Go.Proofs.YtbolmkfphieogaaGreat
namespace Go.Proofs.YtbolmkfphieogaaGreat
open Go.RowKit
set_option linter.unusedVariables false
section
variable {L : List (List Int)} {p l : List Int} {i n c b k : Nat} {u u' : World} {x : Sl} {cs : List Value}
theorem rows_nil : Rows k [] := fun q hq => by cases hq
theorem ir_cell4 (h : IrV 4 u x L) (hi : i < L.length) : ∃ b o, x.a = some ⟨b, o, none⟩ ∧ ∀ j, j < 4 → u.cell? ⟨b, o + i * 4 + j, none⟩ = some (.int .i64 (gi L i j)) := by
 obtain ⟨b, o, h1, h2, h3⟩ := ir_at h hi
 refine ⟨b, o, h1, fun j hj => ?_⟩
 rw [h3 j (by rw [zwi, h.rows.get hi]; exact hj), ics_at (by rw [h.rows.get hi]; exact hj)]
 rfl
end
theorem bd_one {lo hi a : Int} (h : lo ≤ a ∧ a ≤ hi) : ∀ z ∈ [a], lo ≤ z ∧ z ≤ hi := fun z hz => by rw [List.mem_singleton.1 hz]; exact h
namespace Nt
def shC (n b : Int) (p : List Int) : Prop := p.length = 4 ∧ shOK n p ∧ -b ≤ p.getD 2 0 ∧ p.getD 2 0 ≤ b ∧ p.getD 3 0 ≤ 7
theorem shC_mk {n b t f cf sh : Int} (h1 : 0 ≤ t ∧ t < n) (h2 : 0 ≤ f ∧ f < n) (h3 : -2 ≤ sh ∧ sh ≤ 7) (h4 : t = f ↔ sh = -2) (h5 : sh < 0 → cf = 0) (h6 : -b ≤ cf ∧ cf ≤ b) (hb : b ≤ 2097152) : shC n b [t, f, cf, sh] :=
 ⟨rfl, ⟨h1.1, h1.2, h2.1, h2.2, h3.1, by show sh ≤ 20; omega, h4, h5, by show -2097152 ≤ cf; omega, by show cf ≤ 2097152; omega⟩, h6.1, h6.2, h3.2⟩
theorem shC_nil {n b : Int} : ∀ p ∈ ([] : List (List Int)), shC n b p := fun p hp => by cases hp
theorem shC_snoc {n b : Int} {L : List (List Int)} {e : List Int} (h : ∀ p ∈ L, shC n b p) (he : shC n b e) : ∀ p ∈ L ++ [e], shC n b p := fun p hp => by
 rcases List.mem_append.1 hp with hp | hp
 ·exact h p hp
 ·rw [List.mem_singleton.1 hp]; exact he
theorem from_ok {n t f : Nat} (ht : t < n) (hf : f + 1 < n) : (t + 1 + f) % n < n ∧ (t + 1 + f) % n ≠ t := by
 refine ⟨Nat.mod_lt _ xq, ?_⟩
 rcases Nat.lt_or_ge (t + 1 + f) n with h | h
 ·rw [Nat.mod_eq_of_lt h]; omega
 ·have e : (t + 1 + f) % n = t + 1 + f - n := by rw [Nat.mod_eq_sub_mod h, Nat.mod_eq_of_lt xq]
  rw [e]; omega
theorem shC_all {n b : Int} {S : List (List Int)} (hn : 1 ≤ n ∧ n ≤ 64) (hS : S.length ≤ 12) (h : ∀ p ∈ S, shC n b p) : shV n S :=
 ⟨hn.1, hn.2, by omega, fun i hi => by
  rw [List.getD_eq_getElem?_getD, List.getElem?_eq_getElem hi]
  exact (h S[i] (List.getElem_mem hi)).2.1⟩
noncomputable section
def rSH (p q : Nat) : Rat × Rat := cosV (((2 * q : Nat) : Int) - 2 * (p : Int)) (2 * (2 * q)) 64
def rCH (p q : Nat) : Rat × Rat := cosV (p : Int) (2 * q) 64
def rSI (p q : Nat) : Rat × Rat := cosV (((q : Nat) : Int) - 2 * (p : Int)) (2 * q) 64
def rTA (p q : Nat) : Rat × Rat := (divO (rSH p q).1 (rSH p q).2 (rCH p q).1 (rCH p q).2).getD (0, 0)
def roT (p q k : Nat) : Int := coZ (rTA p q).1 (rTA p q).2 k
def roS (p q k : Nat) : Int := coZ (rSI p q).1 (rSI p q).2 k
structure RotOK (p q k : Nat) : Prop where
 g1 : GapQ (2 * (2 * q)) 64
 g2 : GapQ (2 * q) 64
 hs : sgI (rCH p q).1 (rCH p q).2 ≠ 0
 t0 : -2097152 ≤ roT p q k
 t1 : roT p q k ≤ 2097152
 s0 : -2097152 ≤ roS p q k
 s1 : roS p q k ≤ 2097152
def roL (i j p q k : Nat) : List (List Int) := [[(i : Int), (j : Int), roT p q k, (k : Int)], [(j : Int), (i : Int), -roS p q k, (k : Int)], [(i : Int), (j : Int), roT p q k, (k : Int)], [(j : Int), (j : Int), 0, -2]]
theorem RotOK.div {p q k : Nat} (h : RotOK p q k) : divE (rCH p q).1 (rCH p q).2 = 0 ∧ divO (rSH p q).1 (rSH p q).2 (rCH p q).1 (rCH p q).2 = some ((rTA p q).1, (rTA p q).2) := by
 constructor
 ·exact if_neg h.hs
 ·unfold rTA
  have : divO (rSH p q).1 (rSH p q).2 (rCH p q).1 (rCH p q).2 = _ := if_neg h.hs
  rw [this]; rfl
theorem flo_616 : flo (coN 6 16) 64 = xLo (cs8 6 16) / u2 (128 - 64) := flo_of2 (w := 128) (cs8_ok xw xw) xw rfl (by decide +kernel)
theorem flo_18 : flo (coN 1 8) 64 = xLo (cs8 1 8) / u2 (128 - 64) := flo_of2 (w := 128) (cs8_ok xw xw) xw rfl (by decide +kernel)
theorem flo_28 : flo (coN 2 8) 64 = xLo (cs8 2 8) / u2 (128 - 64) := flo_of2 (w := 128) (cs8_ok xw xw) xw rfl (by decide +kernel)
theorem rSH_14 : rSH 1 4 = (gr 64 (xLo (cs8 6 16) / u2 (128 - 64)), gr 64 (xLo (cs8 6 16) / u2 (128 - 64) + 1)) := by
 have h : fold 6 16 = 6 := by decide +kernel
 show cosV 6 16 64 = _
 rw [cosV_lo h xw, cosA_g xw xw xw, flo_616]
theorem rCH_14 : rCH 1 4 = (gr 64 (xLo (cs8 1 8) / u2 (128 - 64)), gr 64 (xLo (cs8 1 8) / u2 (128 - 64) + 1)) := by
 have h : fold 1 8 = 1 := by decide +kernel
 show cosV 1 8 64 = _
 rw [cosV_lo h xw, cosA_g xw xw xw, flo_18]
theorem rSI_14 : rSI 1 4 = (gr 64 (xLo (cs8 2 8) / u2 (128 - 64)), gr 64 (xLo (cs8 2 8) / u2 (128 - 64) + 1)) := by
 have h : fold 2 8 = 2 := by decide +kernel
 show cosV 2 8 64 = _
 rw [cosV_lo h xw, cosA_g xw xw xw, flo_28]
theorem roT_14 : roT 1 4 4 = 7 := by unfold roT rTA; rw [rSH_14, rCH_14]; decide +kernel
theorem roS_14 : roS 1 4 4 = 11 := by unfold roS; rw [rSI_14]; decide +kernel
theorem rotOK_14 : RotOK 1 4 4 := by
 refine ⟨gapQ_16 xw xw, gapQ_16 xw xw, ?_, ?_, ?_, ?_, ?_⟩
 ·rw [rCH_14]; decide +kernel
 ·rw [roT_14]; decide
 ·rw [roT_14]; decide
 ·rw [roS_14]; decide
 ·rw [roS_14]; decide
end
end Nt
end Go.Proofs.YtbolmkfphieogaaGreat
namespace Go.Proofs.YtbolmkfphieogaaGreat
open Go.RowKit
set_option linter.unusedVariables false
theorem k_intDivI {u w : World} {i1 i2 : IL} {z D : Int} {K L : Nat} (d : Dat u w) (h1 : IntV u i1 z K) (h2 : IntN u i2 D L) (hD : 0 < D) (hK : K ≤ 100000000) (hL : L ≤ 100000000) : Calls Tryz.prog 180 #[i1.v, i2.v] w (Post u w fun v u' => ∃ i j : IL, v = .tuple #[i.v, j.v, .int .i64 0] ∧ IntN u' i (z / D) (K + 1) ∧ IntN u' j (z % D) L) := by
 obtain ⟨s, y⟩ := i2
 have hs : s = false := by have h3 := h2.1; rw [decide_eq_false xq] at h3; exact h3
 subst hs
 have hd : ((D.natAbs : Nat) : Int) = D := by omega
 have := k_intDivP d h1 (y := y) (M := D.natAbs) h2.2.raw xq hK hL
 rw [hd] at this
 exact this
theorem k_intSub {u w : World} {i1 : IL} {zN : Int} {K : Nat} {i2 : IL} {zM : Int} {L : Nat} (d : Dat u w) (hi1 : IntV u i1 zN K) (hi2 : IntV u i2 zM L) (hK : K ≤ 400000000) (hL : L ≤ 400000000) : Calls Tryz.prog 233 #[i1.v, i2.v] w (Post u w fun v u' => ∃ i : IL, v = i.v ∧ IntN u' i (zN - zM) (max K L + 1)) := by
 obtain ⟨N, hN, hzN⟩ := hi1
 obtain ⟨M, hM, hzM⟩ := hi2
 refine zzl (args := [i1.v, i2.v]) Tryz.func233 rfl Tryz.ntmps233 (rs := [.cell 4 24]) Tryz.results233 (le_b rfl) (le_b rfl) d ?_
 refine sq9 (zzj 2 ⟨24, i1.cs⟩ (zzj 3 ⟨24, i2.cs⟩ (zzj 4 ⟨24, [.bool false, .slice none 0 0]⟩ (zzb (sq9 (zzh 5 (.v (i1.v)) ty24 zze (zza 6 (.adr 3 0) (zzh 7 (zB i2.s) ty4 zzk (zza 8 (zB (!i2.s)) (zza 9 (.adr 3 1) (zzh 10 (.v i2.m.v) ty22 zzk ?_)))))))))))
 refine zza 11 (.v (.agg #[.bool (!i2.s), i2.m.v])) (zzg 12 159 [i1.v, .agg #[.bool (!i2.s), i2.m.v]] ?_)
 intro w11 u11 e11 d11
 have k16 := k_intAdd d11 (IntV.same (s := i1.s) (hN.ext e11)) (IntV.same (s := !i2.s) (hM.ext e11)) xq xq
 with_reducible refine zPm k16 ?_
 rintro _ u14 g15 ⟨i12, rfl, h13⟩
 refine zzi ⟨24, i12.cs⟩ ty24 ?_
 refine zzb (zzn (ret0 [i12.v] ⟨zzq ty24 zze, trivial⟩ fun u17 e18 => ?_))
 refine ⟨i12, rfl, IntN.more (K := (max K L + 1)) ?_ xq⟩
 have e9 : zN - zM = Nt.sg i1.s N + Nt.sg (!i2.s) M := by rw [hzN, hzM]; unfold Nt.sg; cases i1.s <;> cases i2.s <;> simp <;> omega
 rw [e9]
 exact (h13.ext e18)
theorem k_eUnit {u w : World} {k : Nat} (d : Dat u w) (hk : k ≤ 65536) : Calls Tryz.prog 161 #[.int .i64 (k : Int)] w (Post u w fun v u' => ∃ i : IL, v = SP i i ∧ IntN u' i (Nt.u2 k) (k / 32 + 2)) := by
 refine zzl (args := [.int .i64 k]) Tryz.func161 rfl Tryz.ntmps161 (rs := [.cell 2 160]) Tryz.results161 (le_b rfl) (le_b rfl) d ?_
 refine sq9 (zzj 2 ⟨160, [.bool false, .slice none 0 0, .bool false, .slice none 0 0]⟩ (zzb (sq9 (zxw 4 ⟨104, [.int .u32 1]⟩ 1 (fun b11 u12 e13 h14 => ?_)))))
 refine zza 5 (zI k) (zzg 6 79 [.slice (some ⟨b11, 0, none⟩) 1 1, .int .i64 k] ?_)
 intro w15 u15 e15 d15
 have k20 := k_natShift (s := k) d15 ((one_data h14).ext e15).raw xq xq
 with_reducible refine zPm k20 ?_
 rintro _ u18 g19 ⟨x16, rfl, h17⟩
 refine zza 7 (.v (.agg #[.bool false, x16.v])) (zzj 3 ⟨24, [.bool false, .slice none 0 0]⟩ (zzi ⟨24, [.bool false, x16.v]⟩ ty24 ?_))
 refine zzb (sq9 (zzh 8 (.v (.agg #[.bool false, x16.v])) ty24 zze (zzh 9 (.v (.agg #[.bool false, x16.v])) ty24 zze (zza 10 (.v (.agg #[.bool false, x16.v, .bool false, x16.v])) (zzi ⟨160, [.bool false, x16.v, .bool false, x16.v]⟩ ty160 ?_)))))
 refine zzb (zzn (ret0 [.agg #[.bool false, .slice x16.a x16.n x16.c, .bool false, .slice x16.a x16.n x16.c]] ⟨zzq ty160 zze, trivial⟩ fun u21 e22 => ?_))
 refine ⟨(⟨false, x16⟩ : IL), rfl, ?_⟩
 have h9 := nat_intN (h17.ext e22)
 rw [Nat.one_mul] at h9
 exact h9.more xq
theorem k_eAdd {u w : World} {i j : IL} {a b : Int} {K : Nat} {k l : IL} {e f : Int} {L : Nat} (d : Dat u w) (hi : IntN u i a K) (hj : IntN u j b K) (hk : IntN u k e L) (hl : IntN u l f L) (hK : K ≤ 1000000) (hL : L ≤ 1000000) : Calls Tryz.prog 230 #[SP i j, SP k l] w (Post u w fun v u' => ∃ i j : IL, v = SP i j ∧ IntN u' i (a + e) (max K L + 1) ∧ IntN u' j (b + f) (max K L + 1)) := by
 refine zzl (args := [.agg #[.bool i.s, .slice i.m.a i.m.n i.m.c, .bool j.s, .slice j.m.a j.m.n j.m.c], .agg #[.bool k.s, .slice k.m.a k.m.n k.m.c, .bool l.s, .slice l.m.a l.m.n l.m.c]]) Tryz.func230 rfl Tryz.ntmps230 (rs := [.cell 4 160]) Tryz.results230 (le_b rfl) (le_b rfl) d ?_
 refine sq9 (zzj 2 ⟨160, i.cs ++ j.cs⟩ (zzj 3 ⟨160, k.cs ++ l.cs⟩ (zzj 4 ⟨160, [.bool false, .slice none 0 0, .bool false, .slice none 0 0]⟩ (zzb (zzd (zzy [0, 1, 0, 4, 15, 0, 32, 0, 128, 511, 1023, 2047] [(0, []), (1, []), (2, []), (3, []), (5, []), (6, []), (7, []), (8, []), (4, []), (9, []), (10, []), (11, [])] xj xj (zza 5 (.adr 2 0) (zzh 6 (.v (i.v)) ty24 zze (zza 7 (.adr 3 0) (zzh 8 (.v (k.v)) ty24 zze (zza 10 (.adr 2 2) ?_)))))))))))
 refine zzh 11 (.v (j.v)) ty24 zze (zza 12 (.adr 3 2) (zzh 13 (.v (l.v)) ty24 zze (zzg 9 159 [i.v, k.v] ?_)))
 intro w11 u11 e11 d11
 have k16 := k_intAdd d11 (hi.ext e11).raw (hk.ext e11).raw xq xq
 with_reducible refine zPm k16 ?_
 rintro _ u14 g15 ⟨i12, rfl, h13⟩
 refine zzg 14 159 [j.v, l.v] ?_
 intro w17 u17 e17 d17
 have k22 := k_intAdd d17 (hj.ext (e11.trans (g15.ext.trans e17))).raw (hl.ext (e11.trans (g15.ext.trans e17))).raw xq xq
 with_reducible refine zPm k22 ?_
 rintro _ u20 g21 ⟨i18, rfl, h19⟩
 refine zza 15 (.v (.agg #[.bool i12.s, i12.m.v, .bool i18.s, i18.m.v])) (zzi ⟨160, i12.cs ++ i18.cs⟩ ty160 ?_)
 refine zzb (zzn (ret0 [.agg #[.bool i12.s, .slice i12.m.a i12.m.n i12.m.c, .bool i18.s, .slice i18.m.a i18.m.n i18.m.c]] ⟨zzq ty160 zze, trivial⟩ fun u23 e24 => ?_))
 refine ⟨i12, i18, rfl, IntN.more (K := (max K L + 1)) ?_ xq, IntN.more (K := (max K L + 1)) ?_ xq⟩
 ·exact (h13.ext (e17.trans (g21.ext.trans e24)))
 ·exact (h19.ext e24)
theorem k_eSub {u w : World} {i j : IL} {a b : Int} {K : Nat} {k l : IL} {e f : Int} {L : Nat} (d : Dat u w) (hi : IntN u i a K) (hj : IntN u j b K) (hk : IntN u k e L) (hl : IntN u l f L) (hK : K ≤ 1000000) (hL : L ≤ 1000000) : Calls Tryz.prog 184 #[SP i j, SP k l] w (Post u w fun v u' => ∃ i j : IL, v = SP i j ∧ IntN u' i (a - f) (max K L + 1) ∧ IntN u' j (b - e) (max K L + 1)) := by
 refine zzl (args := [.agg #[.bool i.s, .slice i.m.a i.m.n i.m.c, .bool j.s, .slice j.m.a j.m.n j.m.c], .agg #[.bool k.s, .slice k.m.a k.m.n k.m.c, .bool l.s, .slice l.m.a l.m.n l.m.c]]) Tryz.func184 rfl Tryz.ntmps184 (rs := [.cell 4 160]) Tryz.results184 (le_b rfl) (le_b rfl) d ?_
 refine sq9 (zzj 2 ⟨160, i.cs ++ j.cs⟩ (zzj 3 ⟨160, k.cs ++ l.cs⟩ (zzj 4 ⟨160, [.bool false, .slice none 0 0, .bool false, .slice none 0 0]⟩ (zzb (zzd (zzy [0, 1, 0, 4, 15, 0, 32, 0, 128, 511, 1023, 2047] [(0, []), (1, []), (2, []), (3, []), (5, []), (6, []), (7, []), (8, []), (4, []), (9, []), (10, []), (11, [])] xj xj (zza 5 (.adr 2 0) (zzh 6 (.v (i.v)) ty24 zze (zza 7 (.adr 3 2) (zzh 8 (.v (l.v)) ty24 zze (zza 10 (.adr 2 2) ?_)))))))))))
 refine zzh 11 (.v (j.v)) ty24 zze (zza 12 (.adr 3 0) (zzh 13 (.v (k.v)) ty24 zze (zzg 9 233 [i.v, l.v] ?_)))
 intro w11 u11 e11 d11
 have k16 := k_intSub d11 (hi.ext e11).raw (hl.ext e11).raw xq xq
 with_reducible refine zPm k16 ?_
 rintro _ u14 g15 ⟨i12, rfl, h13⟩
 refine zzg 14 233 [j.v, k.v] ?_
 intro w17 u17 e17 d17
 have k22 := k_intSub d17 (hj.ext (e11.trans (g15.ext.trans e17))).raw (hk.ext (e11.trans (g15.ext.trans e17))).raw xq xq
 with_reducible refine zPm k22 ?_
 rintro _ u20 g21 ⟨i18, rfl, h19⟩
 refine zza 15 (.v (.agg #[.bool i12.s, i12.m.v, .bool i18.s, i18.m.v])) (zzi ⟨160, i12.cs ++ i18.cs⟩ ty160 ?_)
 refine zzb (zzn (ret0 [.agg #[.bool i12.s, .slice i12.m.a i12.m.n i12.m.c, .bool i18.s, .slice i18.m.a i18.m.n i18.m.c]] ⟨zzq ty160 zze, trivial⟩ fun u23 e24 => ?_))
 refine ⟨i12, i18, rfl, IntN.more (K := (max K L + 1)) ?_ xq, IntN.more (K := (max K L + 1)) ?_ xq⟩
 ·exact (h13.ext (e17.trans (g21.ext.trans e24)))
 ·exact (h19.ext e24)
theorem k_eTimes {u w : World} {i j : IL} {a b : Int} {K : Nat} {n9 : Nat} (d : Dat u w) (hi : IntN u i a K) (hj : IntN u j b K)  (hK : K ≤ 1000000) (hn : n9 ≤ 1000000000) : Calls Tryz.prog 183 #[SP i j, .int .i64 (n9 : Int)] w (Post u w fun v u' => ∃ i j : IL, v = SP i j ∧ IntN u' i (a * (n9 : Int)) (K + 2) ∧ IntN u' j (b * (n9 : Int)) (K + 2)) := by
 refine zzl (args := [.agg #[.bool i.s, .slice i.m.a i.m.n i.m.c, .bool j.s, .slice j.m.a j.m.n j.m.c], .int .i64 n9]) Tryz.func183 rfl Tryz.ntmps183 (rs := [.cell 4 160]) Tryz.results183 (le_b rfl) (le_b rfl) d ?_
 refine sq9 (zzj 2 ⟨160, i.cs ++ j.cs⟩ (zzj 4 ⟨160, [.bool false, .slice none 0 0, .bool false, .slice none 0 0]⟩ (zzb (zzd (zzy [0, 1, 0, 4, 15, 0, 32, 0, 159, 511, 1023, 2047] [(0, []), (1, []), (2, []), (5, []), (6, []), (7, []), (3, []), (4, []), (8, []), (9, []), (10, []), (11, [])] xj xj (zza 5 (.adr 2 0) (zzh 6 (.v (i.v)) ty24 zze (zza 7 (zI n9) (zza 10 (.adr 2 2) (zzh 11 (.v (j.v)) ty24 zze (zza 12 (zI n9) ?_)))))))))))
 refine zzg 8 160 [.int .i64 n9] ?_
 intro w11 u11 e11 d11
 have k16 := k_intOf d11 (z := (n9 : Int)) xq xq
 with_reducible refine zPm k16 ?_
 rintro _ u14 g15 ⟨i12, rfl, h13⟩
 refine zzg 9 194 [i.v, i12.v] ?_
 intro w17 u17 e17 d17
 have k22 := k_intMul d17 (hi.ext (e11.trans (g15.ext.trans e17))).raw (h13.ext e17).raw xq xq
 with_reducible refine zPm k22 ?_
 rintro _ u20 g21 ⟨i18, rfl, h19⟩
 refine zzg 13 160 [.int .i64 n9] ?_
 intro w23 u23 e23 d23
 have k28 := k_intOf d23 (z := (n9 : Int)) xq xq
 with_reducible refine zPm k28 ?_
 rintro _ u26 g27 ⟨i24, rfl, h25⟩
 refine zzg 14 194 [j.v, i24.v] ?_
 intro w29 u29 e29 d29
 have k34 := k_intMul d29 (hj.ext (e11.trans (g15.ext.trans (e17.trans (g21.ext.trans (e23.trans (g27.ext.trans e29))))))).raw (h25.ext e29).raw xq xq
 with_reducible refine zPm k34 ?_
 rintro _ u32 g33 ⟨i30, rfl, h31⟩
 refine zza 15 (.v (.agg #[.bool i18.s, i18.m.v, .bool i30.s, i30.m.v])) (zzi ⟨160, i18.cs ++ i30.cs⟩ ty160 ?_)
 refine zzb (zzn (ret0 [.agg #[.bool i18.s, .slice i18.m.a i18.m.n i18.m.c, .bool i30.s, .slice i30.m.a i30.m.n i30.m.c]] ⟨zzq ty160 zze, trivial⟩ fun u35 e36 => ?_))
 refine ⟨i18, i30, rfl, IntN.more (K := (K + 2)) ?_ xq, IntN.more (K := (K + 2)) ?_ xq⟩
 ·exact (h19.ext (e23.trans (g27.ext.trans (e29.trans (g33.ext.trans e36)))))
 ·exact (h31.ext e36)
theorem k_eOver {u w : World} {i j : IL} {a b : Int} {K : Nat} {l : IL} {D : Int} {L : Nat} (d : Dat u w) (hi : IntN u i a K) (hj : IntN u j b K) (hl : IntN u l D L) (hD : 0 < D) (hK : K ≤ 1000000) (hL : L ≤ 1000000) : Calls Tryz.prog 228 #[SP i j, l.v] w (Post u w fun v u' => ∃ i j : IL, v = SP i j ∧ IntN u' i (a / D) (K + 3) ∧ IntN u' j (Nt.cdiv b D) (K + 3)) := by
 refine zzl (args := [.agg #[.bool i.s, .slice i.m.a i.m.n i.m.c, .bool j.s, .slice j.m.a j.m.n j.m.c], l.v]) Tryz.func228 rfl Tryz.ntmps228 (rs := [.cell 4 160]) Tryz.results228 (le_b rfl) (le_b rfl) d ?_
 refine sq9 (zzj 2 ⟨160, i.cs ++ j.cs⟩ (zzj 3 ⟨24, l.cs⟩ (zzj 4 ⟨160, [.bool false, .slice none 0 0, .bool false, .slice none 0 0]⟩ (zzb (sq9 (zza 12 (.adr 2 0) (zzh 13 (.v (i.v)) ty24 zze (zzh 14 (.v (l.v)) ty24 zze (zzg 15 180 [i.v, l.v] ?_)))))))))
 intro w11 u11 e11 d11
 have k18 := k_intDivI d11 (hi.ext e11).raw (hl.ext e11) hD xq xq
 with_reducible refine zPm k18 ?_
 rintro _ u16 g17 ⟨i12, i14, rfl, h13, h15⟩
 refine zza 11 (.v (.tuple #[i12.v, i14.v, .int .i64 0])) (zza 16 (.v (i12.v)) (zza 17 (.v (i14.v)) (zza 18 (zI 0) (zzj 5 ⟨24, [.bool false, .slice none 0 0]⟩ (zzj 6 ⟨24, [.bool false, .slice none 0 0]⟩ (zzi ⟨24, i12.cs⟩ ty24 ?_))))))
 refine zzi ⟨24, i14.cs⟩ ty24 ?_
 refine zza 7 (zI 0) (zzb (sq9 (zza 20 (.adr 2 2) (zzh 21 (.v (j.v)) ty24 zze (zzh 22 (.v (l.v)) ty24 zze (zzg 23 180 [j.v, l.v] ?_))))))
 intro w19 u19 e19 d19
 have k26 := k_intDivI d19 (hj.ext (e11.trans (g17.ext.trans e19))).raw (hl.ext (e11.trans (g17.ext.trans e19))) hD xq xq
 with_reducible refine zPm k26 ?_
 rintro _ u24 g25 ⟨i20, i22, rfl, h21, h23⟩
 refine zza 19 (.v (.tuple #[i20.v, i22.v, .int .i64 0])) (zza 24 (.v (i20.v)) (zza 25 (.v (i22.v)) (zza 26 (zI 0) (zzj 8 ⟨24, [.bool false, .slice none 0 0]⟩ (zzj 9 ⟨24, [.bool false, .slice none 0 0]⟩ (zzi ⟨24, i20.cs⟩ ty24 ?_))))))
 refine zzi ⟨24, i22.cs⟩ ty24 ?_
 refine zza 10 (zI 0) (zzb (zzd (sq9 (zzh 27 (.v (i22.v)) ty24 zze (zzg 28 146 [i22.v] ?_)))))
 intro w27 u27 e27 d27
 have k30 := k_intSign d27 (h23.ext e27).raw
 with_reducible refine zPm k30 ?_
 rintro _ u28 g29 rfl
 refine zza 29 (zB ((Nt.cmpS (b % D) 0) != 0)) (zzc 36 [(4, .adr 4 0), (5, .adr 5 0), (8, .adr 8 0), (29, zB ((Nt.cmpS (b % D) 0) != 0))] [(4, ⟨160, [.bool false, .slice none 0 0, .bool false, .slice none 0 0]⟩), (5, ⟨24, i12.cs⟩), (8, ⟨24, i20.cs⟩)] (zzt (b := (Nt.cmpS (b % D) 0) != 0) xj (fun hb31 => ?_) (fun hb31 => ?_)))
 ·replace hb31 : ((Nt.cmpS (b % D) 0) != 0) = true := hb31
  refine zzy [0, 0, 3, 7] [(0, []), (1, []), (2, []), (3, [])] xj xj (zzh 30 (.v (i20.v)) ty24 zze (zzg 31 160 [.int .i64 1] ?_))
  intro w32 u32 e32 d32
  have k37 := k_intOf d32 (z := 1) xq xq
  with_reducible refine zPm k37 ?_
  rintro _ u35 g36 ⟨i33, rfl, h34⟩
  refine zzg 32 159 [i20.v, i33.v] ?_
  intro w38 u38 e38 d38
  have k43 := k_intAdd d38 (h21.ext (e27.trans (g29.ext.trans (e32.trans (g36.ext.trans e38))))).raw (h34.ext e38).raw xq xq
  with_reducible refine zPm k43 ?_
  rintro _ u41 g42 ⟨i39, rfl, h40⟩
  refine zzi ⟨24, i39.cs⟩ ty24 ?_
  refine zzb (sq9 (zzh 33 (.v (i12.v)) ty24 zze (zzh 34 (.v (i39.v)) ty24 zze (zza 35 (.v (.agg #[.bool i12.s, i12.m.v, .bool i39.s, i39.m.v])) (zzi ⟨160, i12.cs ++ i39.cs⟩ ty160 ?_)))))
  refine zzb (zzn (ret0 [.agg #[.bool i12.s, .slice i12.m.a i12.m.n i12.m.c, .bool i39.s, .slice i39.m.a i39.m.n i39.m.c]] ⟨zzq ty160 zze, trivial⟩ fun u44 e45 => ?_))
  have h8 : ¬ b % D = 0 := by intro h7; rw [h7] at hb31; exact absurd hb31 xw
  rw [Nt.cd_eq1 hD h8]
  refine ⟨i12, i39, rfl, IntN.more (K := (K + 1)) ?_ xq, IntN.more (K := (max (K + 1) 2 + 1)) ?_ xq⟩
  ·exact (h13.ext (e19.trans (g25.ext.trans (e27.trans (g29.ext.trans (e32.trans (g36.ext.trans (e38.trans (g42.ext.trans e45)))))))))
  ·exact (h40.ext e45)
 ·replace hb31 : ((Nt.cmpS (b % D) 0) != 0) = false := hb31
  refine zzr (zzo ?_)
  refine sq9 (zzh 33 (.v (i12.v)) ty24 zze (zzh 34 (.v (i20.v)) ty24 zze (zza 35 (.v (.agg #[.bool i12.s, i12.m.v, .bool i20.s, i20.m.v])) (zzi ⟨160, i12.cs ++ i20.cs⟩ ty160 ?_))))
  refine zzb (zzn (ret0 [.agg #[.bool i12.s, .slice i12.m.a i12.m.n i12.m.c, .bool i20.s, .slice i20.m.a i20.m.n i20.m.c]] ⟨zzq ty160 zze, trivial⟩ fun u46 e47 => ?_))
  have h8 : b % D = 0 := by rw [Nt.cmp_ne] at hb31; simpa using hb31
  rw [Nt.cd_eq0 hD h8]
  refine ⟨i12, i20, rfl, IntN.more (K := (K + 1)) ?_ xq, IntN.more (K := (K + 1)) ?_ xq⟩
  ·exact (h13.ext (e19.trans (g25.ext.trans (e27.trans (g29.ext.trans e47)))))
  ·exact (h21.ext (e27.trans (g29.ext.trans e47)))
theorem k_eProd {u w : World} {i j : IL} {a b : Int} {K : Nat} {k l : IL} {e f : Int} {L p : Nat} (d : Dat u w) (hi : IntN u i a K) (hj : IntN u j b K) (hk : IntN u k e L) (hl : IntN u l f L) (hK : K ≤ 400000) (hL : L ≤ 400000) (hp : p ≤ 60000) : Calls Tryz.prog 229 #[SP i j, SP k l, .int .i64 (p : Int)] w (Post u w fun v u' => ∃ i j : IL, v = SP i j ∧ IntN u' i (a * e / Nt.u2 p) (K + L + 3) ∧ IntN u' j (Nt.cdiv (b * f) (Nt.u2 p)) (K + L + 3)) := by
 refine zzl (args := [.agg #[.bool i.s, .slice i.m.a i.m.n i.m.c, .bool j.s, .slice j.m.a j.m.n j.m.c], .agg #[.bool k.s, .slice k.m.a k.m.n k.m.c, .bool l.s, .slice l.m.a l.m.n l.m.c], .int .i64 p]) Tryz.func229 rfl Tryz.ntmps229 (rs := [.cell 6 160]) Tryz.results229 (le_b rfl) (le_b rfl) d ?_
 refine sq9 (zzj 3 ⟨160, i.cs ++ j.cs⟩ (zzj 4 ⟨160, k.cs ++ l.cs⟩ (zzj 6 ⟨160, [.bool false, .slice none 0 0, .bool false, .slice none 0 0]⟩ (zzb (zzd (zzy [0, 1, 0, 4, 15, 0, 32, 0, 128, 511, 1023, 0, 3071, 7167, 16383, 32767] [(0, []), (1, []), (2, []), (3, []), (5, []), (6, []), (7, []), (8, []), (11, []), (4, []), (9, []), (10, []), (12, []), (13, []), (14, []), (15, [])] xj xj (zza 7 (.adr 3 0) (zzh 8 (.v (i.v)) ty24 zze (zza 9 (.adr 4 0) (zzh 10 (.v (k.v)) ty24 zze (zza 12 (.adr 3 2) ?_)))))))))))
 refine zzh 13 (.v (j.v)) ty24 zze (zza 14 (.adr 4 2) (zzh 15 (.v (l.v)) ty24 zze (zza 18 (zI p) (zzg 11 194 [i.v, k.v] ?_))))
 intro w11 u11 e11 d11
 have k16 := k_intMul d11 (hi.ext e11).raw (hk.ext e11).raw xq xq
 with_reducible refine zPm k16 ?_
 rintro _ u14 g15 ⟨i12, rfl, h13⟩
 refine zzg 16 194 [j.v, l.v] ?_
 intro w17 u17 e17 d17
 have k22 := k_intMul d17 (hj.ext (e11.trans (g15.ext.trans e17))).raw (hl.ext (e11.trans (g15.ext.trans e17))).raw xq xq
 with_reducible refine zPm k22 ?_
 rintro _ u20 g21 ⟨i18, rfl, h19⟩
 refine zza 17 (.v (.agg #[.bool i12.s, i12.m.v, .bool i18.s, i18.m.v])) (zzg 19 161 [.int .i64 p] ?_)
 intro w23 u23 e23 d23
 have k28 := k_eUnit (k := p) d23 xq
 with_reducible refine zPm k28 ?_
 rintro _ u26 g27 ⟨i24, rfl, h25⟩
 refine zza 20 (.v (i24.v)) (zzg 21 228 [.agg #[.bool i12.s, i12.m.v, .bool i18.s, i18.m.v], i24.v] ?_)
 intro w29 u29 e29 d29
 have k36 := k_eOver d29 (h13.ext (e17.trans (g21.ext.trans (e23.trans (g27.ext.trans e29))))) (h19.ext (e23.trans (g27.ext.trans e29))) (h25.ext e29) (Nt.u2_pos p) xq xq
 with_reducible refine zPm k36 ?_
 rintro _ u34 g35 ⟨i30, i32, rfl, h31, h33⟩
 refine zzi ⟨160, i30.cs ++ i32.cs⟩ ty160 ?_
 refine zzb (zzn (ret0 [.agg #[.bool i30.s, .slice i30.m.a i30.m.n i30.m.c, .bool i32.s, .slice i32.m.a i32.m.n i32.m.c]] ⟨zzq ty160 zze, trivial⟩ fun u37 e38 => ?_))
 refine ⟨i30, i32, rfl, IntN.more (K := ((K + L) + 3)) ?_ xq, IntN.more (K := ((K + L) + 3)) ?_ xq⟩
 ·exact (h31.ext e38)
 ·exact (h33.ext e38)
theorem k_eWider {u w : World} {i j : IL} {a b : Int} {K : Nat}  (d : Dat u w) (hi : IntN u i a K) (hj : IntN u j b K)  (hK : K ≤ 1000000)  : Calls Tryz.prog 232 #[SP i j] w (Post u w fun v u' => ∃ i j : IL, v = SP i j ∧ IntN u' i (a - 1) (K + 3) ∧ IntN u' j (b + 1) (K + 3)) := by
 refine zzl (args := [.agg #[.bool i.s, .slice i.m.a i.m.n i.m.c, .bool j.s, .slice j.m.a j.m.n j.m.c]]) Tryz.func232 rfl Tryz.ntmps232 (rs := [.cell 2 160]) Tryz.results232 (le_b rfl) (le_b rfl) d ?_
 refine sq9 (zzj 1 ⟨160, i.cs ++ j.cs⟩ (zzj 2 ⟨160, [.bool false, .slice none 0 0, .bool false, .slice none 0 0]⟩ (zzb (sq9 (zzg 4 160 [.int .i64 1] ?_)))))
 intro w11 u11 e11 d11
 have k16 := k_intOf d11 (z := 1) xq xq
 with_reducible refine zPm k16 ?_
 rintro _ u14 g15 ⟨i12, rfl, h13⟩
 refine zzj 3 ⟨24, [.bool false, .slice none 0 0]⟩ (zzi ⟨24, i12.cs⟩ ty24 ?_)
 refine zzb (zzd (zzy [0, 1, 0, 7, 0, 16, 0, 127, 255, 511] [(0, []), (1, []), (2, []), (4, []), (5, []), (6, []), (3, []), (7, []), (8, []), (9, [])] xj xj (zza 5 (.adr 1 0) (zzh 6 (.v (i.v)) ty24 zze (zzh 7 (.v (i12.v)) ty24 zze (zza 9 (.adr 1 2) (zzh 10 (.v (j.v)) ty24 zze (zzh 11 (.v (i12.v)) ty24 zze (zzg 8 233 [i.v, i12.v] ?_)))))))))
 intro w17 u17 e17 d17
 have k22 := k_intSub d17 (hi.ext (e11.trans (g15.ext.trans e17))).raw (h13.ext e17).raw xq xq
 with_reducible refine zPm k22 ?_
 rintro _ u20 g21 ⟨i18, rfl, h19⟩
 refine zzg 12 159 [j.v, i12.v] ?_
 intro w23 u23 e23 d23
 have k28 := k_intAdd d23 (hj.ext (e11.trans (g15.ext.trans (e17.trans (g21.ext.trans e23))))).raw (h13.ext (e17.trans (g21.ext.trans e23))).raw xq xq
 with_reducible refine zPm k28 ?_
 rintro _ u26 g27 ⟨i24, rfl, h25⟩
 refine zza 13 (.v (.agg #[.bool i18.s, i18.m.v, .bool i24.s, i24.m.v])) (zzi ⟨160, i18.cs ++ i24.cs⟩ ty160 ?_)
 refine zzb (zzn (ret0 [.agg #[.bool i18.s, .slice i18.m.a i18.m.n i18.m.c, .bool i24.s, .slice i24.m.a i24.m.n i24.m.c]] ⟨zzq ty160 zze, trivial⟩ fun u29 e30 => ?_))
 refine ⟨i18, i24, rfl, IntN.more (K := (max K 2 + 1)) ?_ xq, IntN.more (K := (max K 2 + 1)) ?_ xq⟩
 ·exact (h19.ext (e23.trans (g27.ext.trans e30)))
 ·exact (h25.ext e30)
theorem k_eTiny {u w : World} {i j : IL} {a b : Int} {K : Nat}  (d : Dat u w) (hi : IntN u i a K) (hj : IntN u j b K)  (hK : K ≤ 1000000)  : Calls Tryz.prog 231 #[SP i j] w (Post u w fun v u' => v = .bool (decide (b ≤ 1))) := by
 refine zzl (args := [.agg #[.bool i.s, .slice i.m.a i.m.n i.m.c, .bool j.s, .slice j.m.a j.m.n j.m.c]]) Tryz.func231 rfl Tryz.ntmps231 (rs := [.tmp 2]) Tryz.results231 (le_b rfl) (le_b rfl) d ?_
 refine sq9 (zzj 1 ⟨160, i.cs ++ j.cs⟩ (zza 2 (zB false) (zzb (zzd (zzy [0, 1, 0, 7, 15, 31] [(0, []), (1, []), (2, []), (3, []), (4, []), (5, [])] xj xj (zza 3 (.adr 1 2) (zzh 4 (.v (j.v)) ty24 zze (zzg 5 160 [.int .i64 1] ?_))))))))
 intro w11 u11 e11 d11
 have k16 := k_intOf d11 (z := 1) xq xq
 with_reducible refine zPm k16 ?_
 rintro _ u14 g15 ⟨i12, rfl, h13⟩
 refine zzg 6 181 [j.v, i12.v] ?_
 intro w17 u17 e17 d17
 have k20 := k_intCompare d17 (hj.ext (e11.trans (g15.ext.trans e17))).raw (h13.ext e17).raw
 with_reducible refine zPm k20 ?_
 rintro _ u18 g19 rfl
 refine zza 7 (zB (decide ((Nt.cmpS b 1) ≤ 0))) (zza 2 (zB (decide ((Nt.cmpS b 1) ≤ 0))) (zzb (zzn (ret0 [.bool (decide ((Nt.cmpS b 1) ≤ 0))] ⟨zzp, trivial⟩ fun u21 e22 => ?_))))
 show Value.bool _ = Value.bool _
 rw [Nt.cmp_le]
set_option maxHeartbeats 4000000 in
theorem k_arctan {u w : World} {n k : Nat} (d : Dat u w) (hn : 2 ≤ n) (hn2 : n ≤ 1000) (hk : k ≤ 800) : Calls Tryz.prog 182 #[.int .i64 (n : Int), .int .i64 (k : Int)] w (Post u w fun v u' => ∃ (i j : IL) (a b : Int), v = SP i j ∧ IntN u' i a 42 ∧ IntN u' j b 42 ∧ Nt.AtR n k a b) := by
 have hN2 : 4 ≤ n * n := Nat.mul_le_mul hn hn
 have hN3 : n * n ≤ 1000000 := Nat.mul_le_mul hn2 hn2
 have hnn : -9223372036854775808 ≤ (n : Int) * (n : Int) ∧ (n : Int) * (n : Int) ≤ 9223372036854775807 := by rw [← Int.natCast_mul]; omega
 have hbig := Nt.big hk
 have hu2 := Nt.u2_pos k
 refine zzl (args := [.int .i64 n, .int .i64 k]) Tryz.func182 rfl Tryz.ntmps182 (rs := [.cell 4 160]) Tryz.results182 (le_b rfl) (le_b rfl) d ?_
 refine sq9 (zzj 4 ⟨160, [.bool false, .slice none 0 0, .bool false, .slice none 0 0]⟩ (zzb (sq9 (zza 9 (zI k) (zzg 10 161 [.int .i64 k] ?_)))))
 intro w11 u11 e11 d11
 have k16 := k_eUnit (k := k) d11 xq
 with_reducible refine zPm k16 ?_
 rintro _ u14 g15 ⟨i12, rfl, h13⟩
 refine zza 11 (zI n) (zzg 12 160 [.int .i64 n] ?_)
 intro w17 u17 e17 d17
 have k22 := k_intOf d17 (z := (n : Int)) xq xq
 with_reducible refine zPm k22 ?_
 rintro _ u20 g21 ⟨i18, rfl, h19⟩
 refine zzg 13 228 [.agg #[.bool i12.s, i12.m.v, .bool i12.s, i12.m.v], i18.v] ?_
 intro w23 u23 e23 d23
 have k30 := k_eOver d23 (h13.ext (e17.trans (g21.ext.trans e23))) (h13.ext (e17.trans (g21.ext.trans e23))) (h19.ext e23) xq xq xq
 with_reducible refine zPm k30 ?_
 rintro _ u28 g29 ⟨i24, i26, rfl, h25, h27⟩
 refine zzj 5 ⟨160, [.bool false, .slice none 0 0, .bool false, .slice none 0 0]⟩ (zzi ⟨160, i24.cs ++ i26.cs⟩ ty160 ?_)
 refine zzb (sq9 (zzh 14 (.v (.agg #[.bool i24.s, i24.m.v, .bool i26.s, i26.m.v])) ty160 zze (zzj 6 ⟨160, [.bool false, .slice none 0 0, .bool false, .slice none 0 0]⟩ (zzi ⟨160, i24.cs ++ i26.cs⟩ ty160 ?_))))
 refine zzb (sq9 (zza 7 (zI 3) (zzb (zzs (zym (I := fun m31 S' u' => ∃ (j : Nat) (x1 : IL) (x2 : IL) (y1 : IL) (y2 : IL) (a : Int) (b : Int) (cc : Int) (dd : Int), (m31 = b.toNat) ∧ (Nt.AtI n k j a b cc dd) ∧ (S' = St.of 40 [(0, zI n), (4, .adr 4 0), (5, .adr 5 0), (6, .adr 6 0), (7, zI (2 * j + 3 : Nat))] [(4, ⟨160, [.bool false, .slice none 0 0, .bool false, .slice none 0 0]⟩), (5, ⟨160, x1.cs ++ x2.cs⟩), (6, ⟨160, y1.cs ++ y2.cs⟩)]) ∧ (Ext u28 u') ∧ (IntN u' x1 a 40) ∧ (IntN u' x2 b 40) ∧ (IntN u' y1 cc 40) ∧ (IntN u' y2 dd 40)) (fun m S u1 u2 e h => by obtain ⟨j, x1, x2, y1, y2, a, b, cc, dd, hm, p0, hS, hE, f0, f1, f2, f3⟩ := h; exact ⟨j, x1, x2, y1, y2, a, b, cc, dd, hm, p0, hS, hE.trans e, f0.ext e, f1.ext e, f2.ext e, f3.ext e⟩) _ yz ⟨0, i24, i26, i24, i26, ((Nt.u2 k) / (n : Int)), (Nt.cdiv (Nt.u2 k) (n : Int)), ((Nt.u2 k) / (n : Int)), (Nt.cdiv (Nt.u2 k) (n : Int)), rfl, (Nt.AtI.start xq), rfl, (Ext.refl _), (IntN.lim h25 (by have h8 := (Nt.AtI.start (n := n) (w := k) xq).bd xq; omega) (by have h8 := (Nt.AtI.start (n := n) (w := k) xq).bd xq; omega)), (IntN.lim h27 (by have h8 := (Nt.AtI.start (n := n) (w := k) xq).bd xq; have h9 := (Nt.AtI.start (n := n) (w := k) xq).p1; omega) (by have h8 := (Nt.AtI.start (n := n) (w := k) xq).bd xq; omega)), (IntN.lim h25 (by have h8 := (Nt.AtI.start (n := n) (w := k) xq).bd xq; omega) (by have h8 := (Nt.AtI.start (n := n) (w := k) xq).bd xq; omega)), (IntN.lim h27 (by have h8 := (Nt.AtI.start (n := n) (w := k) xq).bd xq; have h9 := (Nt.AtI.start (n := n) (w := k) xq).p1; omega) (by have h8 := (Nt.AtI.start (n := n) (w := k) xq).bd xq; omega))⟩ ?_)))))
 rintro m31 _ u31 ⟨j, x1, x2, y1, y2, a, b, cc, dd, hm31, hI, rfl, e31, f0, f1, f2, f3⟩
 have hjw := hI.jw
 refine zzd (zzs (zzd (zzy [0, 0, 0, 6, 14, 31, 63] [(0, []), (1, []), (2, []), (3, []), (4, []), (5, []), (6, [])] xj xj (zzh 17 (.v (.agg #[.bool x1.s, x1.m.v, .bool x2.s, x2.m.v])) ty160 zze (zza 18 (zI n) (zza 19 (zI n) (zyp 20 (x := zI (IntKind.i64.wrap ((n : Int) * (n : Int)))) (zI (((n * n : Nat) : Int))) (by rw [show (IntKind.i64.wrap ((n : Int) * (n : Int))) = ((n * n : Nat) : Int) from (by rw [IntWalk.i64_in _ hnn]; rfl)]) (zzg 21 160 [.int .i64 (n * n : Nat)] ?_))))))))
 intro w32 u32 e32 d32
 have k37 := k_intOf d32 (z := ((n * n : Nat) : Int)) xq xq
 with_reducible refine zPm k37 ?_
 rintro _ u35 g36 ⟨i33, rfl, h34⟩
 refine zzg 22 228 [.agg #[.bool x1.s, x1.m.v, .bool x2.s, x2.m.v], i33.v] ?_
 intro w38 u38 e38 d38
 have k45 := k_eOver d38 (f0.ext (e32.trans (g36.ext.trans e38))) (f1.ext (e32.trans (g36.ext.trans e38))) (h34.ext e38) xq xq xq
 with_reducible refine zPm k45 ?_
 rintro _ u43 g44 ⟨i39, i41, rfl, h40, h42⟩
 refine zzi ⟨160, i39.cs ++ i41.cs⟩ ty160 ?_
 refine zzb (zzd (zzy [0, 0, 2, 7, 0, 31] [(0, []), (1, []), (4, []), (2, []), (3, []), (5, [])] xj xj (zzh 23 (.v (.agg #[.bool i39.s, i39.m.v, .bool i41.s, i41.m.v])) ty160 zze (zza 24 (zI (2 * j + 3 : Nat)) (zzj 8 ⟨160, [.bool false, .slice none 0 0, .bool false, .slice none 0 0]⟩ (zzg 25 160 [.int .i64 (2 * j + 3 : Nat)] ?_))))))
 intro w46 u46 e46 d46
 have k51 := k_intOf d46 (z := ((2 * j + 3 : Nat) : Int)) xq xq
 with_reducible refine zPm k51 ?_
 rintro _ u49 g50 ⟨i47, rfl, h48⟩
 refine zzg 26 228 [.agg #[.bool i39.s, i39.m.v, .bool i41.s, i41.m.v], i47.v] ?_
 intro w52 u52 e52 d52
 have k59 := k_eOver d52 (h40.ext (e46.trans (g50.ext.trans e52))) (h42.ext (e46.trans (g50.ext.trans e52))) (h48.ext e52) xq xq xq
 with_reducible refine zPm k59 ?_
 rintro _ u57 g58 ⟨i53, i55, rfl, h54, h56⟩
 refine zzi ⟨160, i53.cs ++ i55.cs⟩ ty160 ?_
 refine zzb (zzd (sq9 (zza 27 (zI (2 * j + 3 : Nat)) (zza 28 (zI (Int.tmod ((2 * j + 3 : Nat) : Int) 4)) (zza 29 (zB ((Int.tmod ((2 * j + 3 : Nat) : Int) 4) == 3)) (zzb (zzt (b := (Int.tmod ((2 * j + 3 : Nat) : Int) 4) == 3) xj (fun hb60 => ?_) (fun hb60 => ?_))))))))
 ·replace hb60 : ((Int.tmod ((2 * j + 3 : Nat) : Int) 4) == 3) = true := hb60
  have ehb60 : Int.tmod ((2 * j + 3 : Nat) : Int) 4 = ((2 * j + 3 : Nat) : Int) % 4 := Int.tmod_eq_emod_of_nonneg xq
  have q2hb60 :  j % 2 = 0 := by have h9 := hb60; rw [ehb60] at h9; simp at h9; omega
  refine zzf (zzh 30 (.v (.agg #[.bool y1.s, y1.m.v, .bool y2.s, y2.m.v])) ty160 zze (zzh 31 (.v (.agg #[.bool i53.s, i53.m.v, .bool i55.s, i55.m.v])) ty160 zze (zzg 32 184 [.agg #[.bool y1.s, y1.m.v, .bool y2.s, y2.m.v], .agg #[.bool i53.s, i53.m.v, .bool i55.s, i55.m.v]] ?_)))
  intro w61 u61 e61 d61
  have k68 := k_eSub d61 (f2.ext (e32.trans (g36.ext.trans (e38.trans (g44.ext.trans (e46.trans (g50.ext.trans (e52.trans (g58.ext.trans e61))))))))) (f3.ext (e32.trans (g36.ext.trans (e38.trans (g44.ext.trans (e46.trans (g50.ext.trans (e52.trans (g58.ext.trans e61))))))))) (h54.ext e61) (h56.ext e61) xq xq
  with_reducible refine zPm k68 ?_
  rintro _ u66 g67 ⟨i62, i64, rfl, h63, h65⟩
  refine zzi ⟨160, i62.cs ++ i64.cs⟩ ty160 ?_
  refine zzc 40 [(0, zI n), (4, .adr 4 0), (5, .adr 5 0), (6, .adr 6 0), (7, zI (2 * j + 3 : Nat)), (8, .adr 8 0)] [(4, ⟨160, [.bool false, .slice none 0 0, .bool false, .slice none 0 0]⟩), (5, ⟨160, i39.cs ++ i41.cs⟩), (6, ⟨160, i62.cs ++ i64.cs⟩), (8, ⟨160, i53.cs ++ i55.cs⟩)] (sq9 (zzh 36 (.v (.agg #[.bool i53.s, i53.m.v, .bool i55.s, i55.m.v])) ty160 zze (zzg 37 231 [.agg #[.bool i53.s, i53.m.v, .bool i55.s, i55.m.v]] ?_)))
  intro w69 u69 e69 d69
  have k72 := k_eTiny d69 (h54.ext (e61.trans (g67.ext.trans e69))) (h56.ext (e61.trans (g67.ext.trans e69))) xq
  with_reducible refine zPm k72 ?_
  rintro _ u70 g71 rfl
  refine zzb (zzt (b := decide ((Nt.cdiv (Nt.cdiv b ((n * n : Nat) : Int)) ((2 * j + 3 : Nat) : Int)) ≤ 1)) xj (fun hb73 => ?_) (fun hb73 => ?_))
  ·replace hb73 : (decide ((Nt.cdiv (Nt.cdiv b ((n * n : Nat) : Int)) ((2 * j + 3 : Nat) : Int)) ≤ 1)) = true := hb73
   have qhb73 := of_decide_eq_true hb73
   refine sq9 (zzh 38 (.v (.agg #[.bool i62.s, i62.m.v, .bool i64.s, i64.m.v])) ty160 zze (zzg 39 232 [.agg #[.bool i62.s, i62.m.v, .bool i64.s, i64.m.v]] ?_))
   intro w74 u74 e74 d74
   have k81 := k_eWider d74 (h63.ext (e69.trans (g71.ext.trans e74))) (h65.ext (e69.trans (g71.ext.trans e74))) xq
   with_reducible refine zPm k81 ?_
   rintro _ u79 g80 ⟨i75, i77, rfl, h76, h78⟩
   refine zzi ⟨160, i75.cs ++ i77.cs⟩ ty160 ?_
   refine zzb (zzn (zyt (zzv (zys (zyt (ret0 [.agg #[.bool i75.s, .slice i75.m.a i75.m.n i75.m.c, .bool i77.s, .slice i77.m.a i77.m.n i77.m.c]] ⟨zzq ty160 zze, trivial⟩ fun u82 e83 => ?_))))))
   have ho := hI.out xq (of_decide_eq_true hb73) (hI.sub xq q2hb60) (by have h9 := hI.tw xq; omega)
   have hob := Nt.atR_bd ho xq
   exact ⟨i75, i77, _, _, rfl, IntN.lim2 (h76.ext e83) xq xq, IntN.lim2 (h78.ext e83) xq xq, ho⟩
  ·replace hb73 : (decide ((Nt.cdiv (Nt.cdiv b ((n * n : Nat) : Int)) ((2 * j + 3 : Nat) : Int)) ≤ 1)) = false := hb73
   have qhb73 := of_decide_eq_false hb73
   refine zzr (zzo ?_)
   refine zzf (zza 15 (zI (2 * j + 3 : Nat)) (zyp 16 (x := zI (IntKind.i64.wrap (((2 * j + 3 : Nat) : Int) + 2))) (zI (((2 * j + 3) + 2 : Nat) : Int)) (eqI xz) (zza 7 (zI (((2 * j + 3) + 2 : Nat) : Int)) (zzw ?_))))
   have hgo := hI.go xq (by have h9 := of_decide_eq_false hb73; omega) (hI.sub xq q2hb60) (by have h9 := hI.tw xq; omega)
   have hb := hgo.1.bd xq
   have hp0 := hgo.1.p0
   have hp1 := hgo.1.p1
   have hple := hgo.1.p.le
   have hpp := hI.p1
   refine ⟨_, ?_, _, by exact zzu _ _ _, j + 1, i39, i41, i62, i64, (a / ((n * n : Nat) : Int)), (Nt.cdiv b ((n * n : Nat) : Int)), (cc - (Nt.cdiv (Nt.cdiv b ((n * n : Nat) : Int)) ((2 * j + 3 : Nat) : Int))), (dd - ((a / ((n * n : Nat) : Int)) / ((2 * j + 3 : Nat) : Int))), rfl, hgo.1, rfl, (e31.trans (e32.trans (g36.ext.trans (e38.trans (g44.ext.trans (e46.trans (g50.ext.trans (e52.trans (g58.ext.trans (e61.trans (g67.ext.trans (e69.trans g71.ext)))))))))))), (IntN.lim (h40.ext (e46.trans (g50.ext.trans (e52.trans (g58.ext.trans (e61.trans (g67.ext.trans (e69.trans g71.ext)))))))) xq xq), (IntN.lim (h42.ext (e46.trans (g50.ext.trans (e52.trans (g58.ext.trans (e61.trans (g67.ext.trans (e69.trans g71.ext)))))))) xq xq), (IntN.lim (h63.ext (e69.trans g71.ext)) xq xq), (IntN.lim (h65.ext (e69.trans g71.ext)) xq xq)⟩
   omega
 ·replace hb60 : ((Int.tmod ((2 * j + 3 : Nat) : Int) 4) == 3) = false := hb60
  have ehb60 : Int.tmod ((2 * j + 3 : Nat) : Int) 4 = ((2 * j + 3 : Nat) : Int) % 4 := Int.tmod_eq_emod_of_nonneg xq
  have q2hb60 : ¬ j % 2 = 0 := by have h9 := hb60; rw [ehb60] at h9; simp at h9; omega
  refine zzf (zzh 33 (.v (.agg #[.bool y1.s, y1.m.v, .bool y2.s, y2.m.v])) ty160 zze (zzh 34 (.v (.agg #[.bool i53.s, i53.m.v, .bool i55.s, i55.m.v])) ty160 zze (zzg 35 230 [.agg #[.bool y1.s, y1.m.v, .bool y2.s, y2.m.v], .agg #[.bool i53.s, i53.m.v, .bool i55.s, i55.m.v]] ?_)))
  intro w84 u84 e84 d84
  have k91 := k_eAdd d84 (f2.ext (e32.trans (g36.ext.trans (e38.trans (g44.ext.trans (e46.trans (g50.ext.trans (e52.trans (g58.ext.trans e84))))))))) (f3.ext (e32.trans (g36.ext.trans (e38.trans (g44.ext.trans (e46.trans (g50.ext.trans (e52.trans (g58.ext.trans e84))))))))) (h54.ext e84) (h56.ext e84) xq xq
  with_reducible refine zPm k91 ?_
  rintro _ u89 g90 ⟨i85, i87, rfl, h86, h88⟩
  refine zzi ⟨160, i85.cs ++ i87.cs⟩ ty160 ?_
  refine zzc 40 [(0, zI n), (4, .adr 4 0), (5, .adr 5 0), (6, .adr 6 0), (7, zI (2 * j + 3 : Nat)), (8, .adr 8 0)] [(4, ⟨160, [.bool false, .slice none 0 0, .bool false, .slice none 0 0]⟩), (5, ⟨160, i39.cs ++ i41.cs⟩), (6, ⟨160, i85.cs ++ i87.cs⟩), (8, ⟨160, i53.cs ++ i55.cs⟩)] (sq9 (zzh 36 (.v (.agg #[.bool i53.s, i53.m.v, .bool i55.s, i55.m.v])) ty160 zze (zzg 37 231 [.agg #[.bool i53.s, i53.m.v, .bool i55.s, i55.m.v]] ?_)))
  intro w92 u92 e92 d92
  have k95 := k_eTiny d92 (h54.ext (e84.trans (g90.ext.trans e92))) (h56.ext (e84.trans (g90.ext.trans e92))) xq
  with_reducible refine zPm k95 ?_
  rintro _ u93 g94 rfl
  refine zzb (zzt (b := decide ((Nt.cdiv (Nt.cdiv b ((n * n : Nat) : Int)) ((2 * j + 3 : Nat) : Int)) ≤ 1)) xj (fun hb96 => ?_) (fun hb96 => ?_))
  ·replace hb96 : (decide ((Nt.cdiv (Nt.cdiv b ((n * n : Nat) : Int)) ((2 * j + 3 : Nat) : Int)) ≤ 1)) = true := hb96
   have qhb96 := of_decide_eq_true hb96
   refine sq9 (zzh 38 (.v (.agg #[.bool i85.s, i85.m.v, .bool i87.s, i87.m.v])) ty160 zze (zzg 39 232 [.agg #[.bool i85.s, i85.m.v, .bool i87.s, i87.m.v]] ?_))
   intro w97 u97 e97 d97
   have k104 := k_eWider d97 (h86.ext (e92.trans (g94.ext.trans e97))) (h88.ext (e92.trans (g94.ext.trans e97))) xq
   with_reducible refine zPm k104 ?_
   rintro _ u102 g103 ⟨i98, i100, rfl, h99, h101⟩
   refine zzi ⟨160, i98.cs ++ i100.cs⟩ ty160 ?_
   refine zzb (zzn (zyt (zzv (zys (zyt (ret0 [.agg #[.bool i98.s, .slice i98.m.a i98.m.n i98.m.c, .bool i100.s, .slice i100.m.a i100.m.n i100.m.c]] ⟨zzq ty160 zze, trivial⟩ fun u105 e106 => ?_))))))
   have ho := hI.out xq (of_decide_eq_true hb96) (hI.add xq q2hb60) (by have h9 := hI.tw xq; omega)
   have hob := Nt.atR_bd ho xq
   exact ⟨i98, i100, _, _, rfl, IntN.lim2 (h99.ext e106) xq xq, IntN.lim2 (h101.ext e106) xq xq, ho⟩
  ·replace hb96 : (decide ((Nt.cdiv (Nt.cdiv b ((n * n : Nat) : Int)) ((2 * j + 3 : Nat) : Int)) ≤ 1)) = false := hb96
   have qhb96 := of_decide_eq_false hb96
   refine zzr (zzo ?_)
   refine zzf (zza 15 (zI (2 * j + 3 : Nat)) (zyp 16 (x := zI (IntKind.i64.wrap (((2 * j + 3 : Nat) : Int) + 2))) (zI (((2 * j + 3) + 2 : Nat) : Int)) (eqI xz) (zza 7 (zI (((2 * j + 3) + 2 : Nat) : Int)) (zzw ?_))))
   have hgo := hI.go xq (by have h9 := of_decide_eq_false hb96; omega) (hI.add xq q2hb60) (by have h9 := hI.tw xq; omega)
   have hb := hgo.1.bd xq
   have hp0 := hgo.1.p0
   have hp1 := hgo.1.p1
   have hple := hgo.1.p.le
   have hpp := hI.p1
   refine ⟨_, ?_, _, by exact zzu _ _ _, j + 1, i39, i41, i85, i87, (a / ((n * n : Nat) : Int)), (Nt.cdiv b ((n * n : Nat) : Int)), (cc + ((a / ((n * n : Nat) : Int)) / ((2 * j + 3 : Nat) : Int))), (dd + (Nt.cdiv (Nt.cdiv b ((n * n : Nat) : Int)) ((2 * j + 3 : Nat) : Int))), rfl, hgo.1, rfl, (e31.trans (e32.trans (g36.ext.trans (e38.trans (g44.ext.trans (e46.trans (g50.ext.trans (e52.trans (g58.ext.trans (e84.trans (g90.ext.trans (e92.trans g94.ext)))))))))))), (IntN.lim (h40.ext (e46.trans (g50.ext.trans (e52.trans (g58.ext.trans (e84.trans (g90.ext.trans (e92.trans g94.ext)))))))) xq xq), (IntN.lim (h42.ext (e46.trans (g50.ext.trans (e52.trans (g58.ext.trans (e84.trans (g90.ext.trans (e92.trans g94.ext)))))))) xq xq), (IntN.lim (h86.ext (e92.trans g94.ext)) xq xq), (IntN.lim (h88.ext (e92.trans g94.ext)) xq xq)⟩
   omega
set_option maxHeartbeats 1000000 in
theorem k_ePi {u w : World} {k : Nat} (d : Dat u w) (hk0 : 16 ≤ k) (hk : k ≤ 800) : Calls Tryz.prog 102 #[.int .i64 (k : Int)] w (Post u w fun v u' => ∃ (i j : IL) (a b : Int), v = SP i j ∧ IntN u' i a 42 ∧ IntN u' j b 42 ∧ Nt.PiR k a b) := by
 have hbig := Nt.big hk
 have hu2 := Nt.u2_pos k
 refine zzl (args := [.int .i64 k]) Tryz.func102 rfl Tryz.ntmps102 (rs := [.cell 2 160]) Tryz.results102 (le_b rfl) (le_b rfl) d ?_
 refine sq9 (zzj 2 ⟨160, [.bool false, .slice none 0 0, .bool false, .slice none 0 0]⟩ (zzb (sq9 (zza 3 (zI k) (zzg 4 182 [.int .i64 5, .int .i64 k] ?_)))))
 intro w11 u11 e11 d11
 have k15 := k_arctan d11 (n := 5) (k := k) xq xq xq
 with_reducible refine zPm k15 ?_
 rintro _ u13 g14 ⟨si12, sj12, sa12, sb12, rfl, ha12, hb12, hR12⟩
 refine zzg 5 183 [.agg #[.bool si12.s, si12.m.v, .bool sj12.s, sj12.m.v], .int .i64 16] ?_
 intro w16 u16 e16 d16
 have k23 := k_eTimes d16 (ha12.ext e16) (hb12.ext e16) (n9 := 16) xq xq
 with_reducible refine zPm k23 ?_
 rintro _ u21 g22 ⟨i17, i19, rfl, h18, h20⟩
 refine zza 6 (zI k) (zzg 7 182 [.int .i64 239, .int .i64 k] ?_)
 intro w24 u24 e24 d24
 have k28 := k_arctan d24 (n := 239) (k := k) xq xq xq
 with_reducible refine zPm k28 ?_
 rintro _ u26 g27 ⟨si25, sj25, sa25, sb25, rfl, ha25, hb25, hR25⟩
 refine zzg 8 183 [.agg #[.bool si25.s, si25.m.v, .bool sj25.s, sj25.m.v], .int .i64 4] ?_
 intro w29 u29 e29 d29
 have k36 := k_eTimes d29 (ha25.ext e29) (hb25.ext e29) (n9 := 4) xq xq
 with_reducible refine zPm k36 ?_
 rintro _ u34 g35 ⟨i30, i32, rfl, h31, h33⟩
 refine zzg 9 184 [.agg #[.bool i17.s, i17.m.v, .bool i19.s, i19.m.v], .agg #[.bool i30.s, i30.m.v, .bool i32.s, i32.m.v]] ?_
 intro w37 u37 e37 d37
 have k44 := k_eSub d37 (h18.ext (e24.trans (g27.ext.trans (e29.trans (g35.ext.trans e37))))) (h20.ext (e24.trans (g27.ext.trans (e29.trans (g35.ext.trans e37))))) (h31.ext e37) (h33.ext e37) xq xq
 with_reducible refine zPm k44 ?_
 rintro _ u42 g43 ⟨i38, i40, rfl, h39, h41⟩
 refine zzi ⟨160, i38.cs ++ i40.cs⟩ ty160 ?_
 refine zzb (zzn (ret0 [.agg #[.bool i38.s, .slice i38.m.a i38.m.n i38.m.c, .bool i40.s, .slice i40.m.a i40.m.n i40.m.c]] ⟨zzq ty160 zze, trivial⟩ fun u45 e46 => ?_))
 have hP := Nt.PiR.of hR12 hR25
 have hb9 := hP.bd hk0
 exact ⟨i38, i40, _, _, rfl, IntN.lim2 (h39.ext e46) xq xq, IntN.lim2 (h41.ext e46) xq xq, hP⟩
set_option maxHeartbeats 4000000 in
theorem k_cosineOf {u w : World} {p q k : Nat} (d : Dat u w) (hq0 : 0 < q) (hq : q ≤ 100000) (hp : 2 * p ≤ q) (hp1 : 1 ≤ p) (hk0 : 16 ≤ k) (hk : k ≤ 800) : Calls Tryz.prog 179 #[.int .i64 (p : Int), .int .i64 (q : Int), .int .i64 (k : Int)] w (Post u w fun v u' => ∃ (i j : IL) (a b : Int), v = SP i j ∧ IntN u' i a 42 ∧ IntN u' j b 42 ∧ Nt.CsR p q k a b) := by
 have hbig := Nt.big hk
 have hu2 := Nt.u2_pos k
 refine zzl (args := [.int .i64 p, .int .i64 q, .int .i64 k]) Tryz.func179 rfl Tryz.ntmps179 (rs := [.cell 6 160]) Tryz.results179 (le_b rfl) (le_b rfl) d ?_
 refine sq9 (zzj 6 ⟨160, [.bool false, .slice none 0 0, .bool false, .slice none 0 0]⟩ (zzb (sq9 (zza 12 (zI k) (zzg 13 102 [.int .i64 k] ?_)))))
 intro w11 u11 e11 d11
 have k15 := k_ePi d11 (k := k) xq xq
 with_reducible refine zPm k15 ?_
 rintro _ u13 g14 ⟨si12, sj12, sa12, sb12, rfl, ha12, hb12, hR12⟩
 refine zza 14 (zI p) (zzg 15 183 [.agg #[.bool si12.s, si12.m.v, .bool sj12.s, sj12.m.v], .int .i64 p] ?_)
 intro w16 u16 e16 d16
 have k23 := k_eTimes d16 (ha12.ext e16) (hb12.ext e16) (n9 := p) xq xq
 with_reducible refine zPm k23 ?_
 rintro _ u21 g22 ⟨i17, i19, rfl, h18, h20⟩
 refine zza 16 (zI q) (zzg 17 160 [.int .i64 q] ?_)
 intro w24 u24 e24 d24
 have k29 := k_intOf d24 (z := (q : Int)) xq xq
 with_reducible refine zPm k29 ?_
 rintro _ u27 g28 ⟨i25, rfl, h26⟩
 refine zzg 18 228 [.agg #[.bool i17.s, i17.m.v, .bool i19.s, i19.m.v], i25.v] ?_
 intro w30 u30 e30 d30
 have k37 := k_eOver d30 (h18.ext (e24.trans (g28.ext.trans e30))) (h20.ext (e24.trans (g28.ext.trans e30))) (h26.ext e30) xq xq xq
 with_reducible refine zPm k37 ?_
 rintro _ u35 g36 ⟨i31, i33, rfl, h32, h34⟩
 refine zzj 7 ⟨160, [.bool false, .slice none 0 0, .bool false, .slice none 0 0]⟩ (zzi ⟨160, i31.cs ++ i33.cs⟩ ty160 ?_)
 refine zzb (zzd ?_)
 have hY : Nt.CsY p q k ((sa12 * ((p : Nat) : Int)) / (q : Int)) (Nt.cdiv (sb12 * ((p : Nat) : Int)) (q : Int)) := Nt.CsY.of hR12 hk0 hq0 hp hp1
 refine zzf (zzh 19 (.v (.agg #[.bool i31.s, i31.m.v, .bool i33.s, i33.m.v])) ty160 zze (zzh 20 (.v (.agg #[.bool i31.s, i31.m.v, .bool i33.s, i33.m.v])) ty160 zze (zza 21 (zI k) (zzg 22 229 [.agg #[.bool i31.s, i31.m.v, .bool i33.s, i33.m.v], .agg #[.bool i31.s, i31.m.v, .bool i33.s, i33.m.v], .int .i64 k] ?_))))
 intro w38 u38 e38 d38
 have k45 := k_eProd (p := k) d38 (h32.ext e38) (h34.ext e38) (h32.ext e38) (h34.ext e38) xq xq xq
 with_reducible refine zPm k45 ?_
 rintro _ u43 g44 ⟨i39, i41, rfl, h40, h42⟩
 refine zzj 8 ⟨160, [.bool false, .slice none 0 0, .bool false, .slice none 0 0]⟩ (zzi ⟨160, i39.cs ++ i41.cs⟩ ty160 ?_)
 refine zzb (zzd ?_)
 have hQ : Nt.CsQ p q k (((sa12 * ((p : Nat) : Int)) / (q : Int)) * ((sa12 * ((p : Nat) : Int)) / (q : Int)) / Nt.u2 k) (Nt.cdiv ((Nt.cdiv (sb12 * ((p : Nat) : Int)) (q : Int)) * (Nt.cdiv (sb12 * ((p : Nat) : Int)) (q : Int))) (Nt.u2 k)) := Nt.CsQ.of hY
 obtain ⟨_, hQ2, hQ3, hQ4, hQ5, hQ6⟩ := id hQ
 obtain ⟨ql, hql⟩ : ∃ z : Int, (((sa12 * ((p : Nat) : Int)) / (q : Int)) * ((sa12 * ((p : Nat) : Int)) / (q : Int)) / Nt.u2 k) = z := ⟨_, rfl⟩
 obtain ⟨qh, hqh⟩ : ∃ z : Int, (Nt.cdiv ((Nt.cdiv (sb12 * ((p : Nat) : Int)) (q : Int)) * (Nt.cdiv (sb12 * ((p : Nat) : Int)) (q : Int))) (Nt.u2 k)) = z := ⟨_, rfl⟩
 have hs46 := h40
 have hs47 := h42
 rw [hql] at hQ hQ2 hQ3 hQ5 hs46
 rw [hqh] at hQ hQ2 hQ4 hQ5 hQ6 hs47
 have hs48 := IntN.lim2 hs46 xq xq
 have hs49 := IntN.lim2 hs47 xq xq
 refine zzf (zza 23 (zI k) (zzg 24 161 [.int .i64 k] ?_))
 intro w50 u50 e50 d50
 have k55 := k_eUnit (k := k) d50 xq
 with_reducible refine zPm k55 ?_
 rintro _ u53 g54 ⟨i51, rfl, h52⟩
 refine zzj 9 ⟨160, [.bool false, .slice none 0 0, .bool false, .slice none 0 0]⟩ (zzi ⟨160, i51.cs ++ i51.cs⟩ ty160 ?_)
 refine zzb (sq9 (zzh 25 (.v (.agg #[.bool i51.s, i51.m.v, .bool i51.s, i51.m.v])) ty160 zze (zzj 10 ⟨160, [.bool false, .slice none 0 0, .bool false, .slice none 0 0]⟩ (zzi ⟨160, i51.cs ++ i51.cs⟩ ty160 ?_))))
 refine zzb (sq9 (zza 11 (zI 2) (zzb (zzs (zym (I := fun m56 S' u' => ∃ (j : Nat) (x1 : IL) (x2 : IL) (y1 : IL) (y2 : IL) (tl : Int) (th : Int) (sl : Int) (sh : Int), (m56 = Nt.csM k j th) ∧ (Nt.CsI p q k j tl th sl sh) ∧ (S' = St.of 55 [(2, zI k), (6, .adr 6 0), (8, .adr 8 0), (9, .adr 9 0), (10, .adr 10 0), (11, zI (2 * j + 2 : Nat))] [(6, ⟨160, [.bool false, .slice none 0 0, .bool false, .slice none 0 0]⟩), (8, ⟨160, i39.cs ++ i41.cs⟩), (9, ⟨160, x1.cs ++ x2.cs⟩), (10, ⟨160, y1.cs ++ y2.cs⟩)]) ∧ (Ext u53 u') ∧ (IntN u' x1 tl 42) ∧ (IntN u' x2 th 42) ∧ (IntN u' y1 sl 42) ∧ (IntN u' y2 sh 42)) (fun m S u1 u2 e h => by obtain ⟨j, x1, x2, y1, y2, tl, th, sl, sh, hm, p0, hS, hE, f0, f1, f2, f3⟩ := h; exact ⟨j, x1, x2, y1, y2, tl, th, sl, sh, hm, p0, hS, hE.trans e, f0.ext e, f1.ext e, f2.ext e, f3.ext e⟩) _ yz ⟨0, i51, i51, i51, i51, (Nt.u2 k), (Nt.u2 k), (Nt.u2 k), (Nt.u2 k), rfl, Nt.CsI.start, rfl, (Ext.refl _), (IntN.lim2 h52 xq xq), (IntN.lim2 h52 xq xq), (IntN.lim2 h52 xq xq), (IntN.lim2 h52 xq xq)⟩ ?_)))))
 rintro m56 _ u56 ⟨j, x1, x2, y1, y2, tl, th, sl, sh, hm56, hI, rfl, e56, f0, f1, f2, f3⟩
 have hjw := hI.c.jw
 have hD1 := Nt.coD_pos j
 have hD2 := Nt.coD_mul (j := j) xq
 refine zzd (zzs (sq9 (zzh 28 (.v (.agg #[.bool x1.s, x1.m.v, .bool x2.s, x2.m.v])) ty160 zze (zzh 29 (.v (.agg #[.bool i39.s, i39.m.v, .bool i41.s, i41.m.v])) ty160 zze (zza 30 (zI k) (zzg 31 229 [.agg #[.bool x1.s, x1.m.v, .bool x2.s, x2.m.v], .agg #[.bool i39.s, i39.m.v, .bool i41.s, i41.m.v], .int .i64 k] ?_))))))
 intro w57 u57 e57 d57
 have k64 := k_eProd (p := k) d57 (f0.ext e57) (f1.ext e57) (hs48.ext (e50.trans (g54.ext.trans (e56.trans e57)))) (hs49.ext (e50.trans (g54.ext.trans (e56.trans e57)))) xq xq xq
 with_reducible refine zPm k64 ?_
 rintro _ u62 g63 ⟨i58, i60, rfl, h59, h61⟩
 refine zza 32 (zI (2 * j + 2 : Nat)) (zza 33 (zI (2 * j + 2 : Nat)) (zyp 34 (x := zI (IntKind.i64.wrap (((2 * j + 2 : Nat) : Int) - 1))) (zI (((2 * j + 2) - 1 : Nat) : Int)) (eqI xz) (zyp 35 (x := zI (IntKind.i64.wrap (((2 * j + 2 : Nat) : Int) * ((2 * j + 2 - 1 : Nat) : Int)))) (zI (Nt.coD j)) (by rw [show (IntKind.i64.wrap (((2 * j + 2 : Nat) : Int) * ((2 * j + 2 - 1 : Nat) : Int))) = (Nt.coD j) from hD2.1]) (zzg 36 160 [.int .i64 (Nt.coD j)] ?_))))
 intro w65 u65 e65 d65
 have k70 := k_intOf d65 (z := (Nt.coD j)) xq xq
 with_reducible refine zPm k70 ?_
 rintro _ u68 g69 ⟨i66, rfl, h67⟩
 refine zzg 37 228 [.agg #[.bool i58.s, i58.m.v, .bool i60.s, i60.m.v], i66.v] ?_
 intro w71 u71 e71 d71
 have k78 := k_eOver d71 (h59.ext (e65.trans (g69.ext.trans e71))) (h61.ext (e65.trans (g69.ext.trans e71))) (h67.ext e71) xq xq xq
 with_reducible refine zPm k78 ?_
 rintro _ u76 g77 ⟨i72, i74, rfl, h73, h75⟩
 refine zzi ⟨160, i72.cs ++ i74.cs⟩ ty160 ?_
 refine zzc 55 [(2, zI k), (6, .adr 6 0), (8, .adr 8 0), (9, .adr 9 0), (10, .adr 10 0), (11, zI (2 * j + 2 : Nat))] [(6, ⟨160, [.bool false, .slice none 0 0, .bool false, .slice none 0 0]⟩), (8, ⟨160, i39.cs ++ i41.cs⟩), (9, ⟨160, i72.cs ++ i74.cs⟩), (10, ⟨160, y1.cs ++ y2.cs⟩)] (zzd (sq9 (zza 38 (zI (2 * j + 2 : Nat)) (zza 39 (zI (Int.tmod ((2 * j + 2 : Nat) : Int) 4)) (zza 40 (zB ((Int.tmod ((2 * j + 2 : Nat) : Int) 4) == 2)) (zzb (zzt (b := (Int.tmod ((2 * j + 2 : Nat) : Int) 4) == 2) xj (fun hb79 => ?_) (fun hb79 => ?_))))))))
 ·replace hb79 : ((Int.tmod ((2 * j + 2 : Nat) : Int) 4) == 2) = true := hb79
  have ehb79 : Int.tmod ((2 * j + 2 : Nat) : Int) 4 = ((2 * j + 2 : Nat) : Int) % 4 := Int.tmod_eq_emod_of_nonneg xq
  have q2hb79 :  j % 2 = 0 := by have h9 := hb79; rw [ehb79] at h9; simp at h9; omega
  refine zzf (zzh 41 (.v (.agg #[.bool y1.s, y1.m.v, .bool y2.s, y2.m.v])) ty160 zze (zzh 42 (.v (.agg #[.bool i72.s, i72.m.v, .bool i74.s, i74.m.v])) ty160 zze (zzg 43 184 [.agg #[.bool y1.s, y1.m.v, .bool y2.s, y2.m.v], .agg #[.bool i72.s, i72.m.v, .bool i74.s, i74.m.v]] ?_)))
  intro w80 u80 e80 d80
  have k87 := k_eSub d80 (f2.ext (e57.trans (g63.ext.trans (e65.trans (g69.ext.trans (e71.trans (g77.ext.trans e80))))))) (f3.ext (e57.trans (g63.ext.trans (e65.trans (g69.ext.trans (e71.trans (g77.ext.trans e80))))))) (h73.ext e80) (h75.ext e80) xq xq
  with_reducible refine zPm k87 ?_
  rintro _ u85 g86 ⟨i81, i83, rfl, h82, h84⟩
  refine zzi ⟨160, i81.cs ++ i83.cs⟩ ty160 ?_
  refine zzb (sq9 (zza 47 (zI (2 * j + 2 : Nat)) (zza 48 (zB (decide ((4 : Int) ≤ ((2 * j + 2 : Nat) : Int)))) ?_)))
  rcases Bool.eq_false_or_eq_true (decide ((4 : Int) ≤ ((2 * j + 2 : Nat) : Int))) with hs88 | hs88
  ·refine zyp 49 (x := zB (decide ((4 : Int) ≤ ((2 * j + 2 : Nat) : Int)))) (zB true) (by rw [hs88]) ?_
   have qhs88 := of_decide_eq_true hs88
   refine zzh 50 (.v (.agg #[.bool i72.s, i72.m.v, .bool i74.s, i74.m.v])) ty160 zze ?_ (hw := w1 2 true 49)
   refine zzg 51 231 [.agg #[.bool i72.s, i72.m.v, .bool i74.s, i74.m.v]] ?_ (hw := w1 2 true 49)
   intro w89 u89 e89 d89
   have k92 := k_eTiny d89 (h73.ext (e80.trans (g86.ext.trans e89))) (h75.ext (e80.trans (g86.ext.trans e89))) xq
   with_reducible refine zPm k92 ?_
   rintro _ u90 g91 rfl
   refine zza 52 (zB (decide ((Nt.cdiv (Nt.cdiv (th * qh) (Nt.u2 k)) (Nt.coD j)) ≤ 1))) (zzb (zzt (b := decide ((Nt.cdiv (Nt.cdiv (th * qh) (Nt.u2 k)) (Nt.coD j)) ≤ 1)) xj (fun hb93 => ?_) (fun hb93 => ?_)))
   ·replace hb93 : (decide ((Nt.cdiv (Nt.cdiv (th * qh) (Nt.u2 k)) (Nt.coD j)) ≤ 1)) = true := hb93
    have qhb93 := of_decide_eq_true hb93
    refine sq9 (zzh 53 (.v (.agg #[.bool i81.s, i81.m.v, .bool i83.s, i83.m.v])) ty160 zze (zzg 54 232 [.agg #[.bool i81.s, i81.m.v, .bool i83.s, i83.m.v]] ?_))
    intro w94 u94 e94 d94
    have k101 := k_eWider d94 (h82.ext (e89.trans (g91.ext.trans e94))) (h84.ext (e89.trans (g91.ext.trans e94))) xq
    with_reducible refine zPm k101 ?_
    rintro _ u99 g100 ⟨i95, i97, rfl, h96, h98⟩
    refine zzi ⟨160, i95.cs ++ i97.cs⟩ ty160 ?_
    refine zzb (zzn (zyt (zzv (zys (zyt (ret0 [.agg #[.bool i95.s, .slice i95.m.a i95.m.n i95.m.c, .bool i97.s, .slice i97.m.a i97.m.n i97.m.c]] ⟨zzq ty160 zze, trivial⟩ fun u102 e103 => ?_))))))
    have ho := hI.out hQ hq0 hp (by have h9 := of_decide_eq_true hs88; omega) (of_decide_eq_true hb93) (sl' := (sl - (Nt.cdiv (Nt.cdiv (th * qh) (Nt.u2 k)) (Nt.coD j)))) (sh' := (sh - ((tl * ql / Nt.u2 k) / (Nt.coD j)))) (.inl ⟨q2hb79, rfl, rfl⟩)
    have hob := Nt.csR_bd ho hq0 hp hk
    exact ⟨i95, i97, _, _, rfl, IntN.lim2 (h96.ext e103) xq xq, IntN.lim2 (h98.ext e103) xq xq, ho⟩
   ·replace hb93 : (decide ((Nt.cdiv (Nt.cdiv (th * qh) (Nt.u2 k)) (Nt.coD j)) ≤ 1)) = false := hb93
    have qhb93 := of_decide_eq_false hb93
    refine zzr (zzo ?_)
    refine zzf (zza 26 (zI (2 * j + 2 : Nat)) (zyp 27 (x := zI (IntKind.i64.wrap (((2 * j + 2 : Nat) : Int) + 2))) (zI (((2 * j + 2) + 2 : Nat) : Int)) (eqI xz) (zza 11 (zI (((2 * j + 2) + 2 : Nat) : Int)) (zzw ?_))))
    have hgo := hI.go hQ (.inr (by have h9 : ¬ Nt.csH k j th qh ≤ 1 := of_decide_eq_false hb93; omega)) (sl' := (sl - (Nt.cdiv (Nt.cdiv (th * qh) (Nt.u2 k)) (Nt.coD j)))) (sh' := (sh - ((tl * ql / Nt.u2 k) / (Nt.coD j)))) (.inl ⟨q2hb79, rfl, rfl⟩)
    have hb9 := hgo.1.bd hq0 hp
    have hw9 := Nt.csW_le hk
    have ht0 := hgo.1.c.t0
    have ht1 := hgo.1.c.t1
    have htt := hgo.1.c.tt
    have ht2 := hgo.1.c.t2
    have hmm := hgo.2
    simp only [Nt.csL, Nt.csH] at ht0 ht1 htt ht2 hmm
    refine ⟨_, ?_, _, by exact zzu _ _ _, j + 1, i72, i74, i81, i83, ((tl * ql / Nt.u2 k) / (Nt.coD j)), (Nt.cdiv (Nt.cdiv (th * qh) (Nt.u2 k)) (Nt.coD j)), (sl - (Nt.cdiv (Nt.cdiv (th * qh) (Nt.u2 k)) (Nt.coD j))), (sh - ((tl * ql / Nt.u2 k) / (Nt.coD j))), rfl, hgo.1, rfl, (e56.trans (e57.trans (g63.ext.trans (e65.trans (g69.ext.trans (e71.trans (g77.ext.trans (e80.trans (g86.ext.trans (e89.trans g91.ext)))))))))), (IntN.lim2 (h73.ext (e80.trans (g86.ext.trans (e89.trans g91.ext)))) xq xq), (IntN.lim2 (h75.ext (e80.trans (g86.ext.trans (e89.trans g91.ext)))) xq xq), (IntN.lim2 (h82.ext (e89.trans g91.ext)) xq xq), (IntN.lim2 (h84.ext (e89.trans g91.ext)) xq xq)⟩
    omega
  ·refine zyp 49 (x := zB (decide ((4 : Int) ≤ ((2 * j + 2 : Nat) : Int)))) (zB false) (by rw [hs88]) ?_
   have qhs88 := of_decide_eq_false hs88
   refine zzm 50 (uw 2 true false 49) (zzm 51 (uw 2 true false 49) (zza 52 (zB false) (zzb (zyr xj (zzr (zzo ?_))))))
   refine zzf (zza 26 (zI (2 * j + 2 : Nat)) (zyp 27 (x := zI (IntKind.i64.wrap (((2 * j + 2 : Nat) : Int) + 2))) (zI (((2 * j + 2) + 2 : Nat) : Int)) (eqI xz) (zza 11 (zI (((2 * j + 2) + 2 : Nat) : Int)) (zzw ?_))))
   have hgo := hI.go hQ (.inl (by have h9 := of_decide_eq_false hs88; omega)) (sl' := (sl - (Nt.cdiv (Nt.cdiv (th * qh) (Nt.u2 k)) (Nt.coD j)))) (sh' := (sh - ((tl * ql / Nt.u2 k) / (Nt.coD j)))) (.inl ⟨q2hb79, rfl, rfl⟩)
   have hb9 := hgo.1.bd hq0 hp
   have hw9 := Nt.csW_le hk
   have ht0 := hgo.1.c.t0
   have ht1 := hgo.1.c.t1
   have htt := hgo.1.c.tt
   have ht2 := hgo.1.c.t2
   have hmm := hgo.2
   simp only [Nt.csL, Nt.csH] at ht0 ht1 htt ht2 hmm
   refine ⟨_, ?_, _, by exact zzu _ _ _, j + 1, i72, i74, i81, i83, ((tl * ql / Nt.u2 k) / (Nt.coD j)), (Nt.cdiv (Nt.cdiv (th * qh) (Nt.u2 k)) (Nt.coD j)), (sl - (Nt.cdiv (Nt.cdiv (th * qh) (Nt.u2 k)) (Nt.coD j))), (sh - ((tl * ql / Nt.u2 k) / (Nt.coD j))), rfl, hgo.1, rfl, (e56.trans (e57.trans (g63.ext.trans (e65.trans (g69.ext.trans (e71.trans (g77.ext.trans (e80.trans g86.ext)))))))), (IntN.lim2 (h73.ext (e80.trans g86.ext)) xq xq), (IntN.lim2 (h75.ext (e80.trans g86.ext)) xq xq), (IntN.lim2 h82 xq xq), (IntN.lim2 h84 xq xq)⟩
   omega
 ·replace hb79 : ((Int.tmod ((2 * j + 2 : Nat) : Int) 4) == 2) = false := hb79
  have ehb79 : Int.tmod ((2 * j + 2 : Nat) : Int) 4 = ((2 * j + 2 : Nat) : Int) % 4 := Int.tmod_eq_emod_of_nonneg xq
  have q2hb79 : ¬ j % 2 = 0 := by have h9 := hb79; rw [ehb79] at h9; simp at h9; omega
  refine zzf (zzh 44 (.v (.agg #[.bool y1.s, y1.m.v, .bool y2.s, y2.m.v])) ty160 zze (zzh 45 (.v (.agg #[.bool i72.s, i72.m.v, .bool i74.s, i74.m.v])) ty160 zze (zzg 46 230 [.agg #[.bool y1.s, y1.m.v, .bool y2.s, y2.m.v], .agg #[.bool i72.s, i72.m.v, .bool i74.s, i74.m.v]] ?_)))
  intro w104 u104 e104 d104
  have k111 := k_eAdd d104 (f2.ext (e57.trans (g63.ext.trans (e65.trans (g69.ext.trans (e71.trans (g77.ext.trans e104))))))) (f3.ext (e57.trans (g63.ext.trans (e65.trans (g69.ext.trans (e71.trans (g77.ext.trans e104))))))) (h73.ext e104) (h75.ext e104) xq xq
  with_reducible refine zPm k111 ?_
  rintro _ u109 g110 ⟨i105, i107, rfl, h106, h108⟩
  refine zzi ⟨160, i105.cs ++ i107.cs⟩ ty160 ?_
  refine zzb (sq9 (zza 47 (zI (2 * j + 2 : Nat)) (zza 48 (zB (decide ((4 : Int) ≤ ((2 * j + 2 : Nat) : Int)))) ?_)))
  rcases Bool.eq_false_or_eq_true (decide ((4 : Int) ≤ ((2 * j + 2 : Nat) : Int))) with hs112 | hs112
  ·refine zyp 49 (x := zB (decide ((4 : Int) ≤ ((2 * j + 2 : Nat) : Int)))) (zB true) (by rw [hs112]) ?_
   have qhs112 := of_decide_eq_true hs112
   refine zzh 50 (.v (.agg #[.bool i72.s, i72.m.v, .bool i74.s, i74.m.v])) ty160 zze ?_ (hw := w1 2 true 49)
   refine zzg 51 231 [.agg #[.bool i72.s, i72.m.v, .bool i74.s, i74.m.v]] ?_ (hw := w1 2 true 49)
   intro w113 u113 e113 d113
   have k116 := k_eTiny d113 (h73.ext (e104.trans (g110.ext.trans e113))) (h75.ext (e104.trans (g110.ext.trans e113))) xq
   with_reducible refine zPm k116 ?_
   rintro _ u114 g115 rfl
   refine zza 52 (zB (decide ((Nt.cdiv (Nt.cdiv (th * qh) (Nt.u2 k)) (Nt.coD j)) ≤ 1))) (zzb (zzt (b := decide ((Nt.cdiv (Nt.cdiv (th * qh) (Nt.u2 k)) (Nt.coD j)) ≤ 1)) xj (fun hb117 => ?_) (fun hb117 => ?_)))
   ·replace hb117 : (decide ((Nt.cdiv (Nt.cdiv (th * qh) (Nt.u2 k)) (Nt.coD j)) ≤ 1)) = true := hb117
    have qhb117 := of_decide_eq_true hb117
    refine sq9 (zzh 53 (.v (.agg #[.bool i105.s, i105.m.v, .bool i107.s, i107.m.v])) ty160 zze (zzg 54 232 [.agg #[.bool i105.s, i105.m.v, .bool i107.s, i107.m.v]] ?_))
    intro w118 u118 e118 d118
    have k125 := k_eWider d118 (h106.ext (e113.trans (g115.ext.trans e118))) (h108.ext (e113.trans (g115.ext.trans e118))) xq
    with_reducible refine zPm k125 ?_
    rintro _ u123 g124 ⟨i119, i121, rfl, h120, h122⟩
    refine zzi ⟨160, i119.cs ++ i121.cs⟩ ty160 ?_
    refine zzb (zzn (zyt (zzv (zys (zyt (ret0 [.agg #[.bool i119.s, .slice i119.m.a i119.m.n i119.m.c, .bool i121.s, .slice i121.m.a i121.m.n i121.m.c]] ⟨zzq ty160 zze, trivial⟩ fun u126 e127 => ?_))))))
    have ho := hI.out hQ hq0 hp (by have h9 := of_decide_eq_true hs112; omega) (of_decide_eq_true hb117) (sl' := (sl + ((tl * ql / Nt.u2 k) / (Nt.coD j)))) (sh' := (sh + (Nt.cdiv (Nt.cdiv (th * qh) (Nt.u2 k)) (Nt.coD j)))) (.inr ⟨q2hb79, rfl, rfl⟩)
    have hob := Nt.csR_bd ho hq0 hp hk
    exact ⟨i119, i121, _, _, rfl, IntN.lim2 (h120.ext e127) xq xq, IntN.lim2 (h122.ext e127) xq xq, ho⟩
   ·replace hb117 : (decide ((Nt.cdiv (Nt.cdiv (th * qh) (Nt.u2 k)) (Nt.coD j)) ≤ 1)) = false := hb117
    have qhb117 := of_decide_eq_false hb117
    refine zzr (zzo ?_)
    refine zzf (zza 26 (zI (2 * j + 2 : Nat)) (zyp 27 (x := zI (IntKind.i64.wrap (((2 * j + 2 : Nat) : Int) + 2))) (zI (((2 * j + 2) + 2 : Nat) : Int)) (eqI xz) (zza 11 (zI (((2 * j + 2) + 2 : Nat) : Int)) (zzw ?_))))
    have hgo := hI.go hQ (.inr (by have h9 : ¬ Nt.csH k j th qh ≤ 1 := of_decide_eq_false hb117; omega)) (sl' := (sl + ((tl * ql / Nt.u2 k) / (Nt.coD j)))) (sh' := (sh + (Nt.cdiv (Nt.cdiv (th * qh) (Nt.u2 k)) (Nt.coD j)))) (.inr ⟨q2hb79, rfl, rfl⟩)
    have hb9 := hgo.1.bd hq0 hp
    have hw9 := Nt.csW_le hk
    have ht0 := hgo.1.c.t0
    have ht1 := hgo.1.c.t1
    have htt := hgo.1.c.tt
    have ht2 := hgo.1.c.t2
    have hmm := hgo.2
    simp only [Nt.csL, Nt.csH] at ht0 ht1 htt ht2 hmm
    refine ⟨_, ?_, _, by exact zzu _ _ _, j + 1, i72, i74, i105, i107, ((tl * ql / Nt.u2 k) / (Nt.coD j)), (Nt.cdiv (Nt.cdiv (th * qh) (Nt.u2 k)) (Nt.coD j)), (sl + ((tl * ql / Nt.u2 k) / (Nt.coD j))), (sh + (Nt.cdiv (Nt.cdiv (th * qh) (Nt.u2 k)) (Nt.coD j))), rfl, hgo.1, rfl, (e56.trans (e57.trans (g63.ext.trans (e65.trans (g69.ext.trans (e71.trans (g77.ext.trans (e104.trans (g110.ext.trans (e113.trans g115.ext)))))))))), (IntN.lim2 (h73.ext (e104.trans (g110.ext.trans (e113.trans g115.ext)))) xq xq), (IntN.lim2 (h75.ext (e104.trans (g110.ext.trans (e113.trans g115.ext)))) xq xq), (IntN.lim2 (h106.ext (e113.trans g115.ext)) xq xq), (IntN.lim2 (h108.ext (e113.trans g115.ext)) xq xq)⟩
    omega
  ·refine zyp 49 (x := zB (decide ((4 : Int) ≤ ((2 * j + 2 : Nat) : Int)))) (zB false) (by rw [hs112]) ?_
   have qhs112 := of_decide_eq_false hs112
   refine zzm 50 (uw 2 true false 49) (zzm 51 (uw 2 true false 49) (zza 52 (zB false) (zzb (zyr xj (zzr (zzo ?_))))))
   refine zzf (zza 26 (zI (2 * j + 2 : Nat)) (zyp 27 (x := zI (IntKind.i64.wrap (((2 * j + 2 : Nat) : Int) + 2))) (zI (((2 * j + 2) + 2 : Nat) : Int)) (eqI xz) (zza 11 (zI (((2 * j + 2) + 2 : Nat) : Int)) (zzw ?_))))
   have hgo := hI.go hQ (.inl (by have h9 := of_decide_eq_false hs112; omega)) (sl' := (sl + ((tl * ql / Nt.u2 k) / (Nt.coD j)))) (sh' := (sh + (Nt.cdiv (Nt.cdiv (th * qh) (Nt.u2 k)) (Nt.coD j)))) (.inr ⟨q2hb79, rfl, rfl⟩)
   have hb9 := hgo.1.bd hq0 hp
   have hw9 := Nt.csW_le hk
   have ht0 := hgo.1.c.t0
   have ht1 := hgo.1.c.t1
   have htt := hgo.1.c.tt
   have ht2 := hgo.1.c.t2
   have hmm := hgo.2
   simp only [Nt.csL, Nt.csH] at ht0 ht1 htt ht2 hmm
   refine ⟨_, ?_, _, by exact zzu _ _ _, j + 1, i72, i74, i105, i107, ((tl * ql / Nt.u2 k) / (Nt.coD j)), (Nt.cdiv (Nt.cdiv (th * qh) (Nt.u2 k)) (Nt.coD j)), (sl + ((tl * ql / Nt.u2 k) / (Nt.coD j))), (sh + (Nt.cdiv (Nt.cdiv (th * qh) (Nt.u2 k)) (Nt.coD j))), rfl, hgo.1, rfl, (e56.trans (e57.trans (g63.ext.trans (e65.trans (g69.ext.trans (e71.trans (g77.ext.trans (e104.trans g110.ext)))))))), (IntN.lim2 (h73.ext (e104.trans g110.ext)) xq xq), (IntN.lim2 (h75.ext (e104.trans g110.ext)) xq xq), (IntN.lim2 h106 xq xq), (IntN.lim2 h108 xq xq)⟩
   omega
section
variable (P : Program) (w0 : Base) (u0 : World)
def MP.into (I : Nat → St → World → Prop) (Q : MP) (hI : ∀ m, Mono (I m)) : MP where
 f e S u := match e with | .normal => ∃ m T, Weak S T ∧ I m T u | .goto _ => False | e => Q.f e S u
 mono e := by
  cases e <;> first | exact Q.mono _ | skip
  ·rintro S u u' he ⟨m, T, h1, h2⟩
   exact ⟨m, T, h1, hI m T u u' he h2⟩
  ·exact fun S u u' he h => h
def MP.jump (l : Nat) (I : Nat → St → World → Prop) (n : Nat) (Q : MP) (hI : ∀ m, Mono (I m)) : MP where
 f e S u := match e with | .goto l' => l' = l ∧ ∃ m, m < n ∧ ∃ T, Weak S T ∧ I m T u | e => Q.f e S u
 mono e := by
  cases e <;> first | exact Q.mono _ | skip
  rintro S u u' he ⟨hl, m, hm, T, h1, h2⟩
  exact ⟨hl, m, hm, T, h1, hI m T u u' he h2⟩
end
section
variable {P : Program} {w0 : Base} {u0 : World} {S T : St} {B : Tmp → Nat} {a : Act} {w u u' : World} {Q : MP} {c d A R : Code}
theorem sw_goto {l : Nat} (h : Q.f (.goto l) S u) : SW P w0 u0 (.goto l) S u Q := fun B a w u' e hr => wp_goto ⟨S, B, u', hr, Q.mono _ _ _ _ e h⟩
theorem mpg_seq {l : Nat} {c : Code} {Q : MP} (h : Q.f (.goto l) S u) : (MP.seq P w0 u0 c Q).f (.goto l) S u := h
theorem mpg_jump {l n m : Nat} {I : Nat → St → World → Prop} {Q : MP} {hI : ∀ m, Mono (I m)} (hm : m < n) (hw : Weak S T) (h : I m T u) : (MP.jump l I n Q hI).f (.goto l) S u := ⟨rfl, m, hm, T, hw, h⟩
theorem mpr_jump {l n : Nat} {I : Nat → St → World → Prop} {Q : MP} {hI : ∀ m, Mono (I m)} (h : Q.f .ret S u) : (MP.jump l I n Q hI).f .ret S u := h
theorem mpi_into {m : Nat} {I : Nat → St → World → Prop} {Q : MP} {hI : ∀ m, Mono (I m)} (hw : Weak S T) (h : I m T u) : (MP.into I Q hI).f .normal S u := ⟨m, T, hw, h⟩
theorem sw_scope {l : Nat} {I : Nat → St → World → Prop} (hI : ∀ m, Mono (I m)) (hf : findLabel (.seq A (.seq (.label l) R)) l = some (.seq .skip R)) (hA : SW P w0 u0 A S u (MP.into I Q hI)) (h : ∀ n S u, I n S u → SW P w0 u0 R S u (MP.jump l I n Q hI)) : SW P w0 u0 (.scope (.seq A (.seq (.label l) R))) S u Q := by
 intro B a w u' e hr
 let J : Nat → Act → World → Prop := fun n a w => ∃ S B u'', Rep w0 u0 S B a w u'' ∧ I n S u''
 let μ : Act → World → Nat := fun a w => Classical.epsilon fun m => J m a w ∧ ∀ k, J k a w → m ≤ k
 have hμ : ∀ a w n, J n a w → J (μ a w) a w ∧ μ a w ≤ n := fun a w n hn => by
  have := Classical.epsilon_spec (p := fun m => J m a w ∧ ∀ k, J k a w → m ≤ k) (least n hn)
  exact ⟨this.1, this.2 n hn⟩
 refine wp_scope_jumps l (fun a w => ∃ n, J n a w) μ hf ?_ ?_
 ·refine wp_seq (wp_mono (hA B a w u' e hr) fun ex a' w' ⟨S', B', u'', k1, k3⟩ => ?_)
  cases ex with
  | normal =>
   obtain ⟨m, T', t1, t2⟩ := k3
   refine wp_seq (wp_label ?_)
   refine wp_mono (h m T' u'' t2 B' a' w' u'' (Ext.refl _) (k1.weak t1)) fun ex a' w' ⟨S', B', u'', k1, k3⟩ => ?_
   cases ex with
   | goto l' =>
    obtain ⟨rfl, m, hm, T', t1, t2⟩ := k3
    exact ⟨rfl, m, T', B', u'', k1.weak t1, t2⟩
   | _ => exact ⟨S', B', u'', k1, k3⟩
  | goto l' => exact k3.elim
  | _ => exact ⟨S', B', u'', k1, k3⟩
 ·rintro a w ⟨n, hn⟩
  obtain ⟨S1, B1, u1, r1, i1⟩ := (hμ a w n hn).1
  refine wp_seq (wp_skip ?_)
  refine wp_mono (h _ S1 u1 i1 B1 a w u1 (Ext.refl _) r1) fun ex a' w' ⟨S', B', u'', k1, k3⟩ => ?_
  cases ex with
  | goto l' =>
   obtain ⟨rfl, m, hm, T', t1, t2⟩ := k3
   have hJ : J m a' w' := ⟨T', B', u'', k1.weak t1, t2⟩
   exact ⟨rfl, ⟨m, hJ⟩, Nat.lt_of_le_of_lt (hμ a' w' m hJ).2 hm⟩
  | _ => exact ⟨S', B', u'', k1, k3⟩
end
theorem k_ratMake {u w : World} {i j : IL} {z D : Int} {K L : Nat} (d : Dat u w) (hi : IntN u i z K) (hj : IntN u j D L) (hD : 0 < D) (hK : K ≤ 1000000) (hL : L ≤ 1000000) : Calls Tryz.prog 162 #[i.v, j.v] w (Post u w fun v u' => ∃ r : RL, v = .tuple #[r.v, .int .i64 0] ∧ RatN u' r ((z : Rat) / (D : Rat)) (K + L + 1)) := by
 refine zzl (args := [i.v, j.v]) Tryz.func162 rfl Tryz.ntmps162 (rs := [.cell 4 26, .tmp 5]) Tryz.results162 (le_b rfl) (le_b rfl) d ?_
 refine sq9 (zzj 2 ⟨24, i.cs⟩ (zzj 3 ⟨24, j.cs⟩ (zzj 4 ⟨26, [.bool false, .slice none 0 0, .slice none 0 0]⟩ (zza 5 (zI 0) (zzb (zzd (sq9 (zzh 6 (.v (j.v)) ty24 zze (zzg 7 146 [j.v] ?_)))))))))
 intro w11 u11 e11 d11
 have k14 := k_intSign d11 (hj.ext e11).raw
 with_reducible refine zPm k14 ?_
 rintro _ u12 g13 rfl
 refine zza 8 (zB ((Nt.cmpS D 0) == 0)) (zzb (zzt (b := (Nt.cmpS D 0) == 0) xj (fun hb => ?_) (fun hb => ?_)))
 ·exact absurd hb (by rw [show ((Nt.cmpS D 0) == 0) = false from (by rw [Nt.cmp_gt hD]; rfl)]; decide)
 ·clear hb
  refine zzr (zzo ?_)
  refine sq9 (zzh 10 (.v (i.v)) ty24 zze (zzh 11 (.v (j.v)) ty24 zze (zzg 12 196 [i.v, j.v] ?_)))
  intro w15 u15 e15 d15
  have k18 := k_quotient (i := i) (j := j) d15
  with_reducible refine zPm k18 ?_
  rintro _ u16 g17 rfl
  refine zzg 13 148 [.agg #[.bool (!(i.s == j.s)), i.m.v, j.m.v]] ?_
  intro w19 u19 e19 d19
  have k24 := k_lowest d19 ((quot_int (hi.ext (e11.trans (g13.ext.trans (e15.trans g17.ext)))) (hj.ext (e11.trans (g13.ext.trans (e15.trans g17.ext))))).ext e19) ((int_mag (hj.ext (e11.trans (g13.ext.trans (e15.trans g17.ext))))).ext e19).raw (show 0 < (D : Int).natAbs by omega) xq xq
  with_reducible refine zPm k24 ?_
  rintro _ u22 g23 ⟨r20, rfl, h21⟩
  refine zzi ⟨26, r20.cs⟩ ty26 ?_
  refine zza 5 (zI 0) (zzb (zzn (ret0 [r20.v, .int .i64 0] ⟨zzq ty26 zze, zzp, trivial⟩ fun u25 e26 => ?_)))
  refine ⟨r20, rfl, RatN.more (K := (max K L)) ?_ xq⟩
  rw [← Nt.div_mk2 xq]
  exact (h21.ext e26)
theorem k_betweenN {u w : World} {i : IL} {z : Int} {k K : Nat} (d : Dat u w) (hi : IntN u i z K) (hk : k ≤ 256) (hK0 : 1 ≤ K) (hK : K ≤ 900000) : Calls Tryz.prog 84 #[i.v, .bool false, .int .i64 (k : Int)] w (Post u w fun v u' => ∃ r1 r2 : RL, v = IV r1 r2 ∧ RatN u' r1 (Nt.gr k z) (K + 20) ∧ RatN u' r2 (Nt.gr k (z + 1)) (K + 20)) := by
 refine zzl (args := [i.v, .bool false, .int .i64 k]) Tryz.func84 rfl Tryz.ntmps84 (rs := [.cell 6 32]) Tryz.results84 (le_b rfl) (le_b rfl) d ?_
 refine sq9 (zzj 3 ⟨24, i.cs⟩ (zzj 6 ⟨32, [.bool false, .slice none 0 0, .slice none 0 0, .bool false, .slice none 0 0, .slice none 0 0]⟩ (zzb (sq9 (zzh 13 (.v (i.v)) ty24 zze (zzj 7 ⟨24, [.bool false, .slice none 0 0]⟩ (zzi ⟨24, i.cs⟩ ty24 ?_)))))))
 refine zzb (zzd (sq9 (zza 14 (zB false) (zza 15 (zB true) (zzb (zyq xj (zzy [0, 0, 3, 7] [(0, []), (1, []), (2, []), (3, [])] xj xj (zzh 16 (.v (i.v)) ty24 zze (zzg 17 160 [.int .i64 1] ?_)))))))))
 intro w11 u11 e11 d11
 have k16 := k_intOf d11 (z := 1) xq xq
 with_reducible refine zPm k16 ?_
 rintro _ u14 g15 ⟨i12, rfl, h13⟩
 refine zzg 18 159 [i.v, i12.v] ?_
 intro w17 u17 e17 d17
 have k22 := k_intAdd d17 (hi.ext (e11.trans (g15.ext.trans e17))).raw (h13.ext e17).raw xq xq
 with_reducible refine zPm k22 ?_
 rintro _ u20 g21 ⟨i18, rfl, h19⟩
 refine zzi ⟨24, i18.cs⟩ ty24 ?_
 refine zzb (sq9 (zza 19 (zI k) (zzg 20 161 [.int .i64 k] ?_)))
 intro w23 u23 e23 d23
 have k28 := k_eUnit (k := k) d23 xq
 with_reducible refine zPm k28 ?_
 rintro _ u26 g27 ⟨i24, rfl, h25⟩
 refine zza 21 (.v (i24.v)) (zzj 8 ⟨24, [.bool false, .slice none 0 0]⟩ (zzi ⟨24, i24.cs⟩ ty24 ?_))
 refine zzb (sq9 (zzh 23 (.v (i.v)) ty24 zze (zzh 24 (.v (i24.v)) ty24 zze (zzg 25 162 [i.v, i24.v] ?_))))
 intro w29 u29 e29 d29
 have k34 := k_ratMake d29 (hi.ext (e11.trans (g15.ext.trans (e17.trans (g21.ext.trans (e23.trans (g27.ext.trans e29))))))) (h25.ext e29) (Nt.u2_pos _) xq xq
 with_reducible refine zPm k34 ?_
 rintro _ u32 g33 ⟨r30, rfl, h31⟩
 refine zza 22 (.v (.tuple #[r30.v, .int .i64 0])) (zza 26 (.v (r30.v)) (zza 27 (zI 0) (zzj 9 ⟨26, [.bool false, .slice none 0 0, .slice none 0 0]⟩ (zzi ⟨26, r30.cs⟩ ty26 ?_))))
 refine zza 10 (zI 0) (zzb (sq9 (zzh 29 (.v (i18.v)) ty24 zze (zzh 30 (.v (i24.v)) ty24 zze (zzg 31 162 [i18.v, i24.v] ?_)))))
 intro w35 u35 e35 d35
 have k40 := k_ratMake d35 (h19.ext (e23.trans (g27.ext.trans (e29.trans (g33.ext.trans e35))))) (h25.ext (e29.trans (g33.ext.trans e35))) (Nt.u2_pos _) xq xq
 with_reducible refine zPm k40 ?_
 rintro _ u38 g39 ⟨r36, rfl, h37⟩
 refine zza 28 (.v (.tuple #[r36.v, .int .i64 0])) (zza 32 (.v (r36.v)) (zza 33 (zI 0) (zzj 11 ⟨26, [.bool false, .slice none 0 0, .slice none 0 0]⟩ (zzi ⟨26, r36.cs⟩ ty26 ?_))))
 refine zza 12 (zI 0) (zzc 37 [(6, .adr 6 0), (9, .adr 9 0), (11, .adr 11 0)] [(6, ⟨32, [.bool false, .slice none 0 0, .slice none 0 0, .bool false, .slice none 0 0, .slice none 0 0]⟩), (9, ⟨26, r30.cs⟩), (11, ⟨26, r36.cs⟩)] (sq9 (zzh 34 (.v (r30.v)) ty26 zze (zzh 35 (.v (r36.v)) ty26 zze (zza 36 (.v (.agg #[.bool r30.s, r30.m.v, r30.d.v, .bool r36.s, r36.m.v, r36.d.v])) (zzi ⟨32, r30.cs ++ r36.cs⟩ ty32 ?_))))))
 refine zzb (zzn (ret0 [.agg #[.bool r30.s, .slice r30.m.a r30.m.n r30.m.c, .slice r30.d.a r30.d.n r30.d.c, .bool r36.s, .slice r36.m.a r36.m.n r36.m.c, .slice r36.d.a r36.d.n r36.d.c]] ⟨zzq ty32 zze, trivial⟩ fun u41 e42 => ?_))
 refine ⟨r30, r36, rfl, RatN.more (K := (K + (k / 32 + 2) + 1)) ?_ xq, RatN.more (K := ((max K 2 + 1) + (k / 32 + 2) + 1)) ?_ xq⟩
 ·exact (h31.ext (e35.trans (g39.ext.trans e42)))
 ·exact (h37.ext e42)
theorem k_cos1 {u w : World} {p q k bp bq : Nat} (d : Dat u w) (hbp : u.heap[bp]? = some (.cells [Value.int .i64 (p : Int)].toArray 3 (0, 0))) (hbq : u.heap[bq]? = some (.cells [Value.int .i64 (q : Int)].toArray 3 (0, 0))) (hq0 : 0 < q) (hq : q ≤ 100000) (hp : 2 * p ≤ q) (hp1 : 1 ≤ p) (hk0 : 16 ≤ k) (hk : k ≤ 800) : Calls Tryz.prog 178 #[.int .i64 (k : Int), .pointer (some ⟨bp, 0, none⟩), .pointer (some ⟨bq, 0, none⟩)] w (Post u w fun v u' => ∃ (i j : IL) (a b : Int), v = SP i j ∧ IntN u' i a 42 ∧ IntN u' j b 42 ∧ Nt.CsR p q k a b) := by
 refine zzl (args := [.int .i64 k, .pointer (some ⟨bp, 0, none⟩), .pointer (some ⟨bq, 0, none⟩)]) Tryz.func178 rfl Tryz.ntmps178 (rs := [.cell 4 160]) Tryz.results178 (le_b rfl) (le_b rfl) d ?_
 refine sq9 (zzj 4 ⟨160, [.bool false, .slice none 0 0, .bool false, .slice none 0 0]⟩ (zzb (sq9 (zyk 5 (.int .i64 p) (var_cell1 hbp) ty3 (zyk 6 (.int .i64 q) (var_cell1 hbq) ty3 (zza 7 (zI k) (zzg 8 179 [.int .i64 p, .int .i64 q, .int .i64 k] ?_)))))))
 intro w11 u11 e11 d11
 have k15 := k_cosineOf d11 (p := p) (q := q) (k := k) hq0 hq hp hp1 xq xq
 with_reducible refine zPm k15 ?_
 rintro _ u13 g14 ⟨si12, sj12, sa12, sb12, rfl, ha12, hb12, hR12⟩
 refine zzi ⟨160, si12.cs ++ sj12.cs⟩ ty160 ?_
 refine zzb (zzn (ret0 [.agg #[.bool si12.s, .slice si12.m.a si12.m.n si12.m.c, .bool sj12.s, .slice sj12.m.a sj12.m.n sj12.m.c]] ⟨zzq ty160 zze, trivial⟩ fun u16 e17 => ?_))
 exact ⟨si12, sj12, _, _, rfl, (ha12.ext e17), (hb12.ext e17), hR12⟩
set_option maxHeartbeats 2000000 in
theorem k_irrCos {u w : World} {p q bp bq : Nat} {k g : Nat} (d : Dat u w) (hbp : u.heap[bp]? = some (.cells [Value.int .i64 (p : Int)].toArray 3 (0, 0))) (hbq : u.heap[bq]? = some (.cells [Value.int .i64 (q : Int)].toArray 3 (0, 0))) (hq0 : 0 < q) (hq : q ≤ 100000) (hp : 2 * p ≤ q) (hp1 : 1 ≤ p) (hg : Nt.Gap (Nt.coN p q) k g) (hg3 : g ≤ 300) (hk : k ≤ 256) : Calls Tryz.prog 101 #[.func (.func 178) #[] #[.pointer (some ⟨bp, 0, none⟩), .pointer (some ⟨bq, 0, none⟩)], .int .i64 (k : Int)] w (Post u w fun v u' => ∃ r1 r2 : RL, v = IV r1 r2 ∧ RatN u' r1 (Nt.gr k (Nt.flo (Nt.coN p q) k)) 70 ∧ RatN u' r2 (Nt.gr k (Nt.flo (Nt.coN p q) k + 1)) 70) := by
 refine zzl (args := [.func (.func 178) #[] #[.pointer (some ⟨bp, 0, none⟩), .pointer (some ⟨bq, 0, none⟩)], .int .i64 k]) Tryz.func101 rfl Tryz.ntmps101 (rs := [.cell 4 32]) Tryz.results101 (le_b rfl) (le_b rfl) d ?_
 refine sq9 (zzj 4 ⟨32, [.bool false, .slice none 0 0, .slice none 0 0, .bool false, .slice none 0 0, .slice none 0 0]⟩ (zzb (sw_scope (I := fun m11 S' u' => ∃ (wk : Nat), (m11 = 1000 - wk) ∧ (k + 32 ≤ wk) ∧ (wk ≤ 674 ∨ wk = k + 32) ∧ (S' = St.of 49 [(0, .v (.func (.func 178) #[] #[.pointer (some ⟨bp, 0, none⟩), .pointer (some ⟨bq, 0, none⟩)])), (1, zI k), (4, .adr 4 0), (5, zI wk)] [(4, ⟨32, [.bool false, .slice none 0 0, .slice none 0 0, .bool false, .slice none 0 0, .slice none 0 0]⟩)]) ∧ (Ext u u')) (fun m S u1 u2 e h => by obtain ⟨wk, hm, p0, p1, hS, hE⟩ := h; exact ⟨wk, hm, p0, p1, hS, hE.trans e⟩) xj ?_ ?_)))
 ·skip
  refine zzf (zza 14 (zI k) (zyp 15 (x := zI (IntKind.i64.wrap ((k : Int) + 32))) (zI (k + 32 : Nat)) (eqI xz) (zza 5 (zI (k + 32 : Nat)) (zzw ?_))))
  exact mpi_into (T := St.of 49 [(0, .v (.func (.func 178) #[] #[.pointer (some ⟨bp, 0, none⟩), .pointer (some ⟨bq, 0, none⟩)])), (1, .v (.int .i64 (k : Int))), (4, .adr 4 0), (5, .v (.int .i64 ((k + 32 : Nat) : Int)))] [(4, ⟨32, [.bool false, .slice none 0 0, .slice none 0 0, .bool false, .slice none 0 0, .slice none 0 0]⟩)]) yz ⟨k + 32, rfl, by omega, .inr rfl, rfl, (Ext.refl _)⟩
 ·skip
  rintro m11 _ u11 ⟨wk, hm11, hw0, hw1, rfl, e11⟩
  refine sq9 (zza 16 (.v (.func (.func 178) #[] #[.pointer (some ⟨bp, 0, none⟩), .pointer (some ⟨bq, 0, none⟩)])) (zza 17 (zI wk) (zzg 18 178 [.int .i64 wk, .pointer (some ⟨bp, 0, none⟩), .pointer (some ⟨bq, 0, none⟩)] ?_)))
  intro w12 u12 e12 d12
  have k16 := k_cos1 d12 (k := wk) ((e11.trans e12).cells hbp) ((e11.trans e12).cells hbq) hq0 hq hp hp1 xq xq
  with_reducible refine zPm k16 ?_
  rintro _ u14 g15 ⟨si13, sj13, sa13, sb13, rfl, ha13, hb13, hR13⟩
  refine zzj 6 ⟨160, [.bool false, .slice none 0 0, .bool false, .slice none 0 0]⟩ (zzi ⟨160, si13.cs ++ sj13.cs⟩ ty160 ?_)
  refine zzb (sq9 (zza 19 (zI wk) (zza 20 (zI k) (zyp 21 (x := zI (IntKind.i64.wrap ((wk : Int) - (k : Int)))) (zI (wk - k : Nat)) (eqI xz) (zzg 22 161 [.int .i64 (wk - k : Nat)] ?_)))))
  intro w17 u17 e17 d17
  have k22 := k_eUnit (k := wk - k) d17 xq
  with_reducible refine zPm k22 ?_
  rintro _ u20 g21 ⟨i18, rfl, h19⟩
  refine zza 23 (.v (i18.v)) (zzj 7 ⟨24, [.bool false, .slice none 0 0]⟩ (zzi ⟨24, i18.cs⟩ ty24 ?_))
  refine zzb (sq9 (zza 25 (.adr 6 0) (zzh 26 (.v (si13.v)) ty24 zze (zzh 27 (.v (i18.v)) ty24 zze (zzg 28 180 [si13.v, i18.v] ?_)))))
  intro w23 u23 e23 d23
  have k30 := k_intDivI d23 (ha13.ext (e17.trans (g21.ext.trans e23))).raw (h19.ext e23) (Nt.u2_pos _) xq xq
  with_reducible refine zPm k30 ?_
  rintro _ u28 g29 ⟨i24, i26, rfl, h25, h27⟩
  refine zza 24 (.v (.tuple #[i24.v, i26.v, .int .i64 0])) (zza 29 (.v (i24.v)) (zza 30 (.v (i26.v)) (zza 31 (zI 0) (zzj 8 ⟨24, [.bool false, .slice none 0 0]⟩ (zzj 9 ⟨24, [.bool false, .slice none 0 0]⟩ (zzi ⟨24, i24.cs⟩ ty24 ?_))))))
  refine zzi ⟨24, i26.cs⟩ ty24 ?_
  refine zza 10 (zI 0) (zzb (sq9 (zza 33 (.adr 6 2) (zzh 34 (.v (sj13.v)) ty24 zze (zzh 35 (.v (i18.v)) ty24 zze (zzg 36 180 [sj13.v, i18.v] ?_))))))
  intro w31 u31 e31 d31
  have k38 := k_intDivI d31 (hb13.ext (e17.trans (g21.ext.trans (e23.trans (g29.ext.trans e31))))).raw (h19.ext (e23.trans (g29.ext.trans e31))) (Nt.u2_pos _) xq xq
  with_reducible refine zPm k38 ?_
  rintro _ u36 g37 ⟨i32, i34, rfl, h33, h35⟩
  refine zza 32 (.v (.tuple #[i32.v, i34.v, .int .i64 0])) (zza 37 (.v (i32.v)) (zza 38 (.v (i34.v)) (zza 39 (zI 0) (zzj 11 ⟨24, [.bool false, .slice none 0 0]⟩ (zzj 12 ⟨24, [.bool false, .slice none 0 0]⟩ (zzi ⟨24, i32.cs⟩ ty24 ?_))))))
  refine zzi ⟨24, i34.cs⟩ ty24 ?_
  refine zza 13 (zI 0) (zzc 49 [(0, .v (.func (.func 178) #[] #[.pointer (some ⟨bp, 0, none⟩), .pointer (some ⟨bq, 0, none⟩)])), (1, zI k), (4, .adr 4 0), (5, zI wk), (8, .adr 8 0), (11, .adr 11 0)] [(4, ⟨32, [.bool false, .slice none 0 0, .slice none 0 0, .bool false, .slice none 0 0, .slice none 0 0]⟩), (8, ⟨24, i24.cs⟩), (11, ⟨24, i32.cs⟩)] (zzd (sq9 (zzh 40 (.v (i24.v)) ty24 zze (zzh 41 (.v (i32.v)) ty24 zze (zzg 42 181 [i24.v, i32.v] ?_))))))
  intro w39 u39 e39 d39
  have k42 := k_intCompare d39 (h25.ext (e31.trans (g37.ext.trans e39))).raw (h33.ext e39).raw
  with_reducible refine zPm k42 ?_
  rintro _ u40 g41 rfl
  refine zza 43 (zB ((Nt.cmpS (sa13 / (Nt.u2 (wk - k))) (sb13 / (Nt.u2 (wk - k)))) != 0)) (zzb (zzt (b := (Nt.cmpS (sa13 / (Nt.u2 (wk - k))) (sb13 / (Nt.u2 (wk - k)))) != 0) xj (fun hb43 => ?_) (fun hb43 => ?_)))
  ·replace hb43 : ((Nt.cmpS (sa13 / (Nt.u2 (wk - k))) (sb13 / (Nt.u2 (wk - k)))) != 0) = true := hb43
   refine sq9 (zza 44 (zI wk) (zyp 45 (x := zI (IntKind.i64.wrap ((wk : Int) * 2))) (zI (wk * 2 : Nat)) (eqI xz) (zza 5 (zI (wk * 2 : Nat)) (zzb ?_))))
   have hny := Nt.not_yet hg hR13.1 ((Nt.csR_bd hR13 hq0 hp xq).2.2.2.2.2) hb43
   refine sw_goto (mpg_seq (mpg_jump (m := _) (T := St.of 49 [(0, .v (.func (.func 178) #[] #[.pointer (some ⟨bp, 0, none⟩), .pointer (some ⟨bq, 0, none⟩)])), (1, zI k), (4, .adr 4 0), (5, zI (wk * 2 : Nat))] [(4, ⟨32, [.bool false, .slice none 0 0, .slice none 0 0, .bool false, .slice none 0 0, .slice none 0 0]⟩)]) ?_ yz ⟨wk * 2, rfl, by omega, by omega, rfl, (e11.trans (e12.trans (g15.ext.trans (e17.trans (g21.ext.trans (e23.trans (g29.ext.trans (e31.trans (g37.ext.trans (e39.trans g41.ext))))))))))⟩))
   omega
  ·replace hb43 : ((Nt.cmpS (sa13 / (Nt.u2 (wk - k))) (sb13 / (Nt.u2 (wk - k)))) != 0) = false := hb43
   refine zzr (zzo ?_)
   refine sq9 (zzh 46 (.v (i24.v)) ty24 zze (zza 47 (zI k) (zzg 48 84 [i24.v, .bool false, .int .i64 k] ?_)))
   intro w44 u44 e44 d44
   have k51 := k_betweenN (k := k) d44 (h25.ext (e31.trans (g37.ext.trans (e39.trans (g41.ext.trans e44))))) xq xq xq
   with_reducible refine zPm k51 ?_
   rintro _ u49 g50 ⟨r45, r47, rfl, h46, h48⟩
   refine zzi ⟨32, r45.cs ++ r47.cs⟩ ty32 ?_
   refine zzb (zzn (mpr_jump (ret0 [.agg #[.bool r45.s, .slice r45.m.a r45.m.n r45.m.c, .slice r45.d.a r45.d.n r45.d.c, .bool r47.s, .slice r47.m.a r47.m.n r47.m.c, .slice r47.d.a r47.d.n r47.d.c]] ⟨zzq ty32 zze, trivial⟩ fun u52 e53 => ?_)))
   have hfl := Nt.flo_of hR13.1 xq hb43
   refine ⟨r45, r47, rfl, RatN.more (K := ((42 + 1) + 20)) ?_ xq, RatN.more (K := ((42 + 1) + 20)) ?_ xq⟩
   ·rw [← hfl]; exact (h46.ext e53)
   ·rw [← hfl]; exact (h48.ext e53)
theorem k_exactly {u w : World} {r : RL} {q : Rat} {K k : Nat} (d : Dat u w) (hr : RatN u r q K) (hk : k ≤ 256) (hK : K ≤ 10) : Calls Tryz.prog 177 #[r.v, .int .i64 (k : Int)] w (Post u w fun v u' => ∃ r1 r2 : RL, v = IV r1 r2 ∧ RatN u' r1 (Nt.dnQ q k) 80 ∧ RatN u' r2 (-Nt.dnQ (-q) k) 80) := by
 refine zzl (args := [r.v, .int .i64 k]) Tryz.func177 rfl Tryz.ntmps177 (rs := [.cell 4 32]) Tryz.results177 (le_b rfl) (le_b rfl) d ?_
 refine sq9 (zzj 2 ⟨26, r.cs⟩ (zzj 4 ⟨32, [.bool false, .slice none 0 0, .slice none 0 0, .bool false, .slice none 0 0, .slice none 0 0]⟩ (zzb (sq9 (zzh 8 (.v (r.v)) ty26 zze (zzh 9 (.v (r.v)) ty26 zze (zzg 10 144 [r.v, r.v] ?_)))))))
 intro w11 u11 e11 d11
 have k18 := k_ivMake d11 (hr.ext e11).raw (hr.ext e11).raw xq
 with_reducible refine zPm k18 ?_
 rintro _ u16 g17 ⟨r12, r14, rfl, h13, h15⟩
 refine zza 11 (zI k) (zzg 12 227 [.agg #[.bool r12.s, r12.m.v, r12.d.v, .bool r14.s, r14.m.v, r14.d.v], .int .i64 k] ?_)
 intro w19 u19 e19 d19
 have k25 := k_ivRoundG (k := k) xq d19 (h13.ext e19).raw (h15.ext e19).raw xq
 with_reducible refine zPm k25 ?_
 rintro _ u23 g24 ⟨r20, r21, rfl, h22⟩
 refine zza 7 (.v (.tuple #[.agg #[.bool r20.s, r20.m.v, r20.d.v, .bool r21.s, r21.m.v, r21.d.v], .int .i64 (Nt.rndE (k : Int))])) (zza 13 (.v (.agg #[.bool r20.s, r20.m.v, r20.d.v, .bool r21.s, r21.m.v, r21.d.v])) (zza 14 (zI (Nt.rndE (k : Int))) (zzj 5 ⟨32, [.bool false, .slice none 0 0, .slice none 0 0, .bool false, .slice none 0 0, .slice none 0 0]⟩ (zzi ⟨32, r20.cs ++ r21.cs⟩ ty32 ?_))))
 refine zza 6 (zI (Nt.rndE (k : Int))) (zzb (sq9 (zzh 15 (.v (.agg #[.bool r20.s, r20.m.v, r20.d.v, .bool r21.s, r21.m.v, r21.d.v])) ty32 zze (zzi ⟨32, r20.cs ++ r21.cs⟩ ty32 ?_))))
 refine zzb (zzn (ret0 [.agg #[.bool r20.s, .slice r20.m.a r20.m.n r20.m.c, .slice r20.d.a r20.d.n r20.d.c, .bool r21.s, .slice r21.m.a r21.m.n r21.m.c, .slice r21.d.a r21.d.n r21.d.c]] ⟨zzq ty32 zze, trivial⟩ fun u26 e27 => ?_))
 have h9 := (h22.ext e27)
 rw [Nt.rnd_pt hk] at h9
 exact ⟨r20, r21, rfl, RatN.more h9.1 xq, RatN.more h9.2 xq⟩
set_option maxHeartbeats 4000000 in
theorem k_cosA {u w : World} {p : Int} {q k : Nat} (d : Dat u w) (hq0 : 0 < q) (hq2 : q ≤ 10000) (hG0 : Nt.GapQ q k) (hp0 : -1000000000 ≤ p) (hp1 : p ≤ 1000000000) (hk : k ≤ 256) (hA : 2 * Nt.fold p q ≤ q) : Calls Tryz.prog 100 #[.int .i64 p, .int .i64 (q : Int), .int .i64 (k : Int)] w (Post u w fun v u' => ∃ r1 r2 : RL, v = IV r1 r2 ∧ RatN u' r1 ((Nt.cosA (Nt.fold p q) q k).1) 80 ∧ RatN u' r2 ((Nt.cosA (Nt.fold p q) q k).2) 80) := by
 have htm := Nt.tmod_bd p hq0
 obtain ⟨g, hg3, hG⟩ := id hG0
 refine zzl (args := [.int .i64 p, .int .i64 q, .int .i64 k]) Tryz.func100 rfl Tryz.ntmps100 (rs := [.cell 6 32]) Tryz.results100 (le_b rfl) (le_b rfl) d ?_
 refine sq9 (zzj 3 ⟨3, [.int .i64 p]⟩ (zzj 4 ⟨3, [.int .i64 q]⟩ (zzj 6 ⟨32, [.bool false, .slice none 0 0, .slice none 0 0, .bool false, .slice none 0 0, .slice none 0 0]⟩ (zzb (sq9 (zzh 8 (zI p) ty3 zzk (zzh 9 (zI q) ty3 zzk (zyp 10 (x := zI (IntKind.i64.wrap ((2 : Int) * (q : Int)))) (zI (2 * q : Nat)) (eqI xz) (sy_rem 11 (m := ((2 * q : Nat) : Int)) (Int.tmod p (2 * (q : Int))) xq (by rw [Int.natCast_mul]; rfl) ?_)))))))))
 refine zzi ⟨3, [.int .i64 (Int.tmod p (2 * (q : Int)))]⟩ ty3 ?_
 refine zzb (zzd (sq9 (zzh 12 (zI (Int.tmod p (2 * (q : Int)))) ty3 zzk (zza 13 (zB (decide ((Int.tmod p (2 * (q : Int))) < 0))) (zzb (zzt (b := decide ((Int.tmod p (2 * (q : Int))) < 0)) xj (fun hb11 => ?_) (fun hb11 => ?_)))))))
 ·replace hb11 : (decide ((Int.tmod p (2 * (q : Int))) < 0)) = true := hb11
  have qhb11 := of_decide_eq_true hb11
  refine zzf (zzh 14 (zI (Int.tmod p (2 * (q : Int)))) ty3 zzk (zyp 15 (x := zI (IntKind.i64.wrap (0 - (Int.tmod p (2 * (q : Int)))))) (zI (-(Int.tmod p (2 * (q : Int))))) (eqI xz) (zzi ⟨3, [.int .i64 (-(Int.tmod p (2 * (q : Int))))]⟩ ty3 ?_)))
  refine zzb (zzd (sq9 (zzh 16 (zI (-(Int.tmod p (2 * (q : Int))))) ty3 zzk (zzh 17 (zI q) ty3 zzk (zza 18 (zB (decide ((q : Int) < (-(Int.tmod p (2 * (q : Int))))))) (zzb (zzt (b := decide ((q : Int) < (-(Int.tmod p (2 * (q : Int)))))) xj (fun hb12 => ?_) (fun hb12 => ?_))))))))
  ·replace hb12 : (decide ((q : Int) < (-(Int.tmod p (2 * (q : Int)))))) = true := hb12
   have qhb12 := of_decide_eq_true hb12
   refine zzf (zzh 19 (zI q) ty3 zzk (zyp 20 (x := zI (IntKind.i64.wrap ((2 : Int) * (q : Int)))) (zI (2 * q : Nat)) (eqI xz) (zzh 21 (zI (-(Int.tmod p (2 * (q : Int))))) ty3 zzk (zyp 22 (x := zI (IntKind.i64.wrap (((2 * q : Nat) : Int) - (-(Int.tmod p (2 * (q : Int))))))) (zI (((2 * q : Nat) : Int) - (-(Int.tmod p (2 * (q : Int)))))) yq (zzi ⟨3, [.int .i64 (((2 * q : Nat) : Int) - (-(Int.tmod p (2 * (q : Int)))))]⟩ ty3 ?_)))))
   refine zzb (zzd (zzd ?_))
   have hfold : (((2 * q : Nat) : Int) - (-(Int.tmod p (2 * (q : Int))))) = ((Nt.fold p q : Nat) : Int) := by unfold Nt.fold; dsimp only; split <;> omega
   rw [hfold]
   have hfl := Nt.fold_le p q hq0
   obtain ⟨r, hr⟩ : ∃ r, Nt.fold p q = r := ⟨_, rfl⟩
   rw [hr] at hfl ⊢
   clear hfold
   rw [hr] at hA
   refine zzf (zzh 23 (zI r) ty3 zzk (zyp 24 (x := zI (IntKind.i64.wrap ((2 : Int) * (r : Int)))) (zI (2 * r : Nat)) (eqI xz) (zzh 25 (zI q) ty3 zzk (zza 26 (zB (decide ((q : Int) < ((2 * r : Nat) : Int)))) (zzb (zzt (b := decide ((q : Int) < ((2 * r : Nat) : Int))) xj (fun hb => ?_) (fun hb => ?_)))))))
   ·exact absurd hb (by rw [show (decide ((q : Int) < ((2 * r : Nat) : Int))) = false from decide_eq_false xq]; decide)
   ·clear hb
    refine zzr (zzo ?_)
    refine zzd (zzs (sq9 (zzh 41 (zI r) ty3 zzk (zza 42 (zB ((r : Int) == 0)) (zza 40 (zB ((r : Int) == 0)) (zzb (zzt (b := (r : Int) == 0) xj (fun hb13 => ?_) (fun hb13 => ?_))))))))
    ·replace hb13 : ((r : Int) == 0) = true := hb13
     have qhb13 : (r : Int) = 0 := by simpa using hb13
     refine sq9 (zzg 43 118 [.int .i64 1] ?_)
     intro w14 u14 e14 d14
     have k19 := k_ratOf d14 (z := 1) xq xq
     with_reducible refine zPm k19 ?_
     rintro _ u17 g18 ⟨r15, rfl, h16⟩
     refine zza 44 (zI k) (zzg 45 177 [r15.v, .int .i64 k] ?_)
     intro w20 u20 e20 d20
     have k27 := k_exactly (k := k) d20 (h16.ext e20) xq xq
     with_reducible refine zPm k27 ?_
     rintro _ u25 g26 ⟨r21, r23, rfl, h22, h24⟩
     refine zzi ⟨32, r21.cs ++ r23.cs⟩ ty32 ?_
     refine zzc 65 [(6, .adr 6 0)] [(6, ⟨32, r21.cs ++ r23.cs⟩)] (zzn (zyt (zzv (ret0 [.agg #[.bool r21.s, .slice r21.m.a r21.m.n r21.m.c, .slice r21.d.a r21.d.n r21.d.c, .bool r23.s, .slice r23.m.a r23.m.n r23.m.c, .slice r23.d.a r23.d.n r23.d.c]] ⟨zzq ty32 zze, trivial⟩ fun u28 e29 => ?_))))
     have hc := Nt.cosA_0 (r := r) (q := q) (b := k) (by have h9 := hb13; simp at h9; omega)
     refine ⟨r21, r23, rfl, RatN.more (K := 80) ?_ xq, RatN.more (K := 80) ?_ xq⟩
     ·rw [hc]; exact (h22.ext e29)
     ·rw [hc]; exact (h24.ext e29)
    ·replace hb13 : ((r : Int) == 0) = false := hb13
     have qhb13 : ¬ ((r : Int) = 0) := by simpa using hb13
     refine sq9 (zzh 47 (zI r) ty3 zzk (zyp 48 (x := zI (IntKind.i64.wrap ((2 : Int) * (r : Int)))) (zI (2 * r : Nat)) (eqI xz) (zzh 49 (zI q) ty3 zzk (zza 50 (zB (((2 * r : Nat) : Int) == (q : Int))) (zza 46 (zB (((2 * r : Nat) : Int) == (q : Int))) (zzc 65 [(2, zI k), (3, .adr 3 0), (4, .adr 4 0), (6, .adr 6 0), (46, zB (((2 * r : Nat) : Int) == (q : Int)))] [(3, ⟨3, [.int .i64 r]⟩), (4, ⟨3, [.int .i64 q]⟩), (6, ⟨32, [.bool false, .slice none 0 0, .slice none 0 0, .bool false, .slice none 0 0, .slice none 0 0]⟩)] (zzt (b := ((2 * r : Nat) : Int) == (q : Int)) xj (fun hb30 => ?_) (fun hb30 => ?_))))))))
     ·replace hb30 : (((2 * r : Nat) : Int) == (q : Int)) = true := hb30
      refine sq9 (zzg 51 118 [.int .i64 0] ?_)
      intro w31 u31 e31 d31
      have k36 := k_ratOf d31 (z := 0) xq xq
      with_reducible refine zPm k36 ?_
      rintro _ u34 g35 ⟨r32, rfl, h33⟩
      refine zza 52 (zI k) (zzg 53 177 [r32.v, .int .i64 k] ?_)
      intro w37 u37 e37 d37
      have k44 := k_exactly (k := k) d37 (h33.ext e37) xq xq
      with_reducible refine zPm k44 ?_
      rintro _ u42 g43 ⟨r38, r40, rfl, h39, h41⟩
      refine zzi ⟨32, r38.cs ++ r40.cs⟩ ty32 ?_
      refine zzb (zzn (zyt (zzv (ret0 [.agg #[.bool r38.s, .slice r38.m.a r38.m.n r38.m.c, .slice r38.d.a r38.d.n r38.d.c, .bool r40.s, .slice r40.m.a r40.m.n r40.m.c, .slice r40.d.a r40.d.n r40.d.c]] ⟨zzq ty32 zze, trivial⟩ fun u45 e46 => ?_))))
      have hc := Nt.cosA_h (r := r) (q := q) (b := k) (by have h9 := hb13; simp at h9; omega) (by have h9 := hb30; simp at h9; omega)
      refine ⟨r38, r40, rfl, RatN.more (K := 80) ?_ xq, RatN.more (K := 80) ?_ xq⟩
      ·rw [hc]; exact (h39.ext e46)
      ·rw [hc]; exact (h41.ext e46)
     ·replace hb30 : (((2 * r : Nat) : Int) == (q : Int)) = false := hb30
      have q9hb30 : ¬ 2 * r = q := by have h9 := hb30; simp at h9; omega
      refine sq9 (zzh 55 (zI r) ty3 zzk (zyp 56 (x := zI (IntKind.i64.wrap ((3 : Int) * (r : Int)))) (zI (3 * r : Nat)) (eqI xz) (zzh 57 (zI q) ty3 zzk (zza 58 (zB (((3 * r : Nat) : Int) == (q : Int))) (zza 54 (zB (((3 * r : Nat) : Int) == (q : Int))) (zzb (zzt (b := ((3 * r : Nat) : Int) == (q : Int)) xj (fun hb47 => ?_) (fun hb47 => ?_))))))))
      ·replace hb47 : (((3 * r : Nat) : Int) == (q : Int)) = true := hb47
       refine sq9 (zzg 59 127 [.int .i64 1, .int .i64 2] ?_)
       intro w48 u48 e48 d48
       have k53 := k_ratFrac d48 (a := 1) (b := 2) xq xq xq xq
       with_reducible refine zPm k53 ?_
       rintro _ u51 g52 ⟨r49, rfl, h50⟩
       refine zza 60 (zI k) (zzg 61 177 [r49.v, .int .i64 k] ?_)
       intro w54 u54 e54 d54
       have k61 := k_exactly (k := k) d54 (h50.ext e54) xq xq
       with_reducible refine zPm k61 ?_
       rintro _ u59 g60 ⟨r55, r57, rfl, h56, h58⟩
       refine zzi ⟨32, r55.cs ++ r57.cs⟩ ty32 ?_
       refine zzb (zzn (zyt (zzv (ret0 [.agg #[.bool r55.s, .slice r55.m.a r55.m.n r55.m.c, .slice r55.d.a r55.d.n r55.d.c, .bool r57.s, .slice r57.m.a r57.m.n r57.m.c, .slice r57.d.a r57.d.n r57.d.c]] ⟨zzq ty32 zze, trivial⟩ fun u62 e63 => ?_))))
       have hc := Nt.cosA_3 (r := r) (q := q) (b := k) (by have h9 := hb13; simp at h9; omega) (by have h9 := hb30; simp at h9; omega) (by have h9 := hb47; simp at h9; omega)
       refine ⟨r55, r57, rfl, RatN.more (K := 80) ?_ xq, RatN.more (K := 80) ?_ xq⟩
       ·rw [hc]; exact (h56.ext e63)
       ·rw [hc]; exact (h58.ext e63)
      ·replace hb47 : (((3 * r : Nat) : Int) == (q : Int)) = false := hb47
       have q9hb47 : ¬ 3 * r = q := by have h9 := hb47; simp at h9; omega
       refine zzr (zzo ?_)
       refine zzd (sw_pubA (r := 3) (t := 3) [3] xk xj (by rfl) (by rfl) xj (fun b64 u65 e66 hb67 hv68 hh69 => ?_))
       refine sw_pubA (r := 4) (t := 4) [4] xk xj (by rfl) (by rfl) xj (fun b70 u71 e72 hb73 hv74 hh75 => ?_)
       refine zzf (sy_fun 62 [.pointer (some ⟨b64, 0, none⟩), .pointer (some ⟨b70, 0, none⟩)] ?_)
       refine zza 63 (zI k) (zzg 64 101 [.func (.func 178) #[] #[.pointer (some ⟨b64, 0, none⟩), .pointer (some ⟨b70, 0, none⟩)], .int .i64 k] ?_)
       intro w76 u76 e76 d76
       have k83 := k_irrCos (k := k) d76 ((e72.trans e76).cells hh69) (e76.cells hh75) hq0 xq xq xq (hG r xq xq xq) hg3 xq
       with_reducible refine zPm k83 ?_
       rintro _ u81 g82 ⟨r77, r79, rfl, h78, h80⟩
       refine zzi ⟨32, r77.cs ++ r79.cs⟩ ty32 ?_
       refine zzb (zzn (ret0 [.agg #[.bool r77.s, .slice r77.m.a r77.m.n r77.m.c, .slice r77.d.a r77.d.n r77.d.c, .bool r79.s, .slice r79.m.a r79.m.n r79.m.c, .slice r79.d.a r79.d.n r79.d.c]] ⟨zzq ty32 zze, trivial⟩ fun u84 e85 => ?_))
       have hc := Nt.cosA_g (r := r) (q := q) (b := k) (by have h9 := hb13; simp at h9; omega) (by have h9 := hb30; simp at h9; omega) (by have h9 := hb47; simp at h9; omega)
       refine ⟨r77, r79, rfl, RatN.more (K := 70) ?_ xq, RatN.more (K := 70) ?_ xq⟩
       ·rw [hc]; exact (h78.ext e85)
       ·rw [hc]; exact (h80.ext e85)
  ·replace hb12 : (decide ((q : Int) < (-(Int.tmod p (2 * (q : Int)))))) = false := hb12
   have qhb12 := of_decide_eq_false hb12
   refine zzr (zzo ?_)
   refine zzd (zzd ?_)
   have hfold : (-(Int.tmod p (2 * (q : Int)))) = ((Nt.fold p q : Nat) : Int) := by unfold Nt.fold; dsimp only; split <;> omega
   rw [hfold]
   have hfl := Nt.fold_le p q hq0
   obtain ⟨r, hr⟩ : ∃ r, Nt.fold p q = r := ⟨_, rfl⟩
   rw [hr] at hfl ⊢
   clear hfold
   rw [hr] at hA
   refine zzf (zzh 23 (zI r) ty3 zzk (zyp 24 (x := zI (IntKind.i64.wrap ((2 : Int) * (r : Int)))) (zI (2 * r : Nat)) (eqI xz) (zzh 25 (zI q) ty3 zzk (zza 26 (zB (decide ((q : Int) < ((2 * r : Nat) : Int)))) (zzb (zzt (b := decide ((q : Int) < ((2 * r : Nat) : Int))) xj (fun hb => ?_) (fun hb => ?_)))))))
   ·exact absurd hb (by rw [show (decide ((q : Int) < ((2 * r : Nat) : Int))) = false from decide_eq_false xq]; decide)
   ·clear hb
    refine zzr (zzo ?_)
    refine zzd (zzs (sq9 (zzh 41 (zI r) ty3 zzk (zza 42 (zB ((r : Int) == 0)) (zza 40 (zB ((r : Int) == 0)) (zzb (zzt (b := (r : Int) == 0) xj (fun hb86 => ?_) (fun hb86 => ?_))))))))
    ·replace hb86 : ((r : Int) == 0) = true := hb86
     have qhb86 : (r : Int) = 0 := by simpa using hb86
     refine sq9 (zzg 43 118 [.int .i64 1] ?_)
     intro w87 u87 e87 d87
     have k92 := k_ratOf d87 (z := 1) xq xq
     with_reducible refine zPm k92 ?_
     rintro _ u90 g91 ⟨r88, rfl, h89⟩
     refine zza 44 (zI k) (zzg 45 177 [r88.v, .int .i64 k] ?_)
     intro w93 u93 e93 d93
     have k100 := k_exactly (k := k) d93 (h89.ext e93) xq xq
     with_reducible refine zPm k100 ?_
     rintro _ u98 g99 ⟨r94, r96, rfl, h95, h97⟩
     refine zzi ⟨32, r94.cs ++ r96.cs⟩ ty32 ?_
     refine zzb (zzn (zyt (zzv (ret0 [.agg #[.bool r94.s, .slice r94.m.a r94.m.n r94.m.c, .slice r94.d.a r94.d.n r94.d.c, .bool r96.s, .slice r96.m.a r96.m.n r96.m.c, .slice r96.d.a r96.d.n r96.d.c]] ⟨zzq ty32 zze, trivial⟩ fun u101 e102 => ?_))))
     have hc := Nt.cosA_0 (r := r) (q := q) (b := k) (by have h9 := hb86; simp at h9; omega)
     refine ⟨r94, r96, rfl, RatN.more (K := 80) ?_ xq, RatN.more (K := 80) ?_ xq⟩
     ·rw [hc]; exact (h95.ext e102)
     ·rw [hc]; exact (h97.ext e102)
    ·replace hb86 : ((r : Int) == 0) = false := hb86
     have qhb86 : ¬ ((r : Int) = 0) := by simpa using hb86
     refine sq9 (zzh 47 (zI r) ty3 zzk (zyp 48 (x := zI (IntKind.i64.wrap ((2 : Int) * (r : Int)))) (zI (2 * r : Nat)) (eqI xz) (zzh 49 (zI q) ty3 zzk (zza 50 (zB (((2 * r : Nat) : Int) == (q : Int))) (zza 46 (zB (((2 * r : Nat) : Int) == (q : Int))) (zzb (zzt (b := ((2 * r : Nat) : Int) == (q : Int)) xj (fun hb103 => ?_) (fun hb103 => ?_))))))))
     ·replace hb103 : (((2 * r : Nat) : Int) == (q : Int)) = true := hb103
      refine sq9 (zzg 51 118 [.int .i64 0] ?_)
      intro w104 u104 e104 d104
      have k109 := k_ratOf d104 (z := 0) xq xq
      with_reducible refine zPm k109 ?_
      rintro _ u107 g108 ⟨r105, rfl, h106⟩
      refine zza 52 (zI k) (zzg 53 177 [r105.v, .int .i64 k] ?_)
      intro w110 u110 e110 d110
      have k117 := k_exactly (k := k) d110 (h106.ext e110) xq xq
      with_reducible refine zPm k117 ?_
      rintro _ u115 g116 ⟨r111, r113, rfl, h112, h114⟩
      refine zzi ⟨32, r111.cs ++ r113.cs⟩ ty32 ?_
      refine zzc 65 [(6, .adr 6 0)] [(6, ⟨32, r111.cs ++ r113.cs⟩)] (zzn (zyt (zzv (ret0 [.agg #[.bool r111.s, .slice r111.m.a r111.m.n r111.m.c, .slice r111.d.a r111.d.n r111.d.c, .bool r113.s, .slice r113.m.a r113.m.n r113.m.c, .slice r113.d.a r113.d.n r113.d.c]] ⟨zzq ty32 zze, trivial⟩ fun u118 e119 => ?_))))
      have hc := Nt.cosA_h (r := r) (q := q) (b := k) (by have h9 := hb86; simp at h9; omega) (by have h9 := hb103; simp at h9; omega)
      refine ⟨r111, r113, rfl, RatN.more (K := 80) ?_ xq, RatN.more (K := 80) ?_ xq⟩
      ·rw [hc]; exact (h112.ext e119)
      ·rw [hc]; exact (h114.ext e119)
     ·replace hb103 : (((2 * r : Nat) : Int) == (q : Int)) = false := hb103
      have q9hb103 : ¬ 2 * r = q := by have h9 := hb103; simp at h9; omega
      refine sq9 (zzh 55 (zI r) ty3 zzk (zyp 56 (x := zI (IntKind.i64.wrap ((3 : Int) * (r : Int)))) (zI (3 * r : Nat)) (eqI xz) (zzh 57 (zI q) ty3 zzk (zza 58 (zB (((3 * r : Nat) : Int) == (q : Int))) (zza 54 (zB (((3 * r : Nat) : Int) == (q : Int))) (zzc 65 [(2, zI k), (3, .adr 3 0), (4, .adr 4 0), (6, .adr 6 0), (54, zB (((3 * r : Nat) : Int) == (q : Int)))] [(3, ⟨3, [.int .i64 r]⟩), (4, ⟨3, [.int .i64 q]⟩), (6, ⟨32, [.bool false, .slice none 0 0, .slice none 0 0, .bool false, .slice none 0 0, .slice none 0 0]⟩)] (zzt (b := ((3 * r : Nat) : Int) == (q : Int)) xj (fun hb120 => ?_) (fun hb120 => ?_))))))))
      ·replace hb120 : (((3 * r : Nat) : Int) == (q : Int)) = true := hb120
       refine sq9 (zzg 59 127 [.int .i64 1, .int .i64 2] ?_)
       intro w121 u121 e121 d121
       have k126 := k_ratFrac d121 (a := 1) (b := 2) xq xq xq xq
       with_reducible refine zPm k126 ?_
       rintro _ u124 g125 ⟨r122, rfl, h123⟩
       refine zza 60 (zI k) (zzg 61 177 [r122.v, .int .i64 k] ?_)
       intro w127 u127 e127 d127
       have k134 := k_exactly (k := k) d127 (h123.ext e127) xq xq
       with_reducible refine zPm k134 ?_
       rintro _ u132 g133 ⟨r128, r130, rfl, h129, h131⟩
       refine zzi ⟨32, r128.cs ++ r130.cs⟩ ty32 ?_
       refine zzb (zzn (zyt (zzv (ret0 [.agg #[.bool r128.s, .slice r128.m.a r128.m.n r128.m.c, .slice r128.d.a r128.d.n r128.d.c, .bool r130.s, .slice r130.m.a r130.m.n r130.m.c, .slice r130.d.a r130.d.n r130.d.c]] ⟨zzq ty32 zze, trivial⟩ fun u135 e136 => ?_))))
       have hc := Nt.cosA_3 (r := r) (q := q) (b := k) (by have h9 := hb86; simp at h9; omega) (by have h9 := hb103; simp at h9; omega) (by have h9 := hb120; simp at h9; omega)
       refine ⟨r128, r130, rfl, RatN.more (K := 80) ?_ xq, RatN.more (K := 80) ?_ xq⟩
       ·rw [hc]; exact (h129.ext e136)
       ·rw [hc]; exact (h131.ext e136)
      ·replace hb120 : (((3 * r : Nat) : Int) == (q : Int)) = false := hb120
       have q9hb120 : ¬ 3 * r = q := by have h9 := hb120; simp at h9; omega
       refine zzr (zzo ?_)
       refine zzd (sw_pubA (r := 3) (t := 3) [3] xk xj (by rfl) (by rfl) xj (fun b137 u138 e139 hb140 hv141 hh142 => ?_))
       refine sw_pubA (r := 4) (t := 4) [4] xk xj (by rfl) (by rfl) xj (fun b143 u144 e145 hb146 hv147 hh148 => ?_)
       refine zzf (sy_fun 62 [.pointer (some ⟨b137, 0, none⟩), .pointer (some ⟨b143, 0, none⟩)] ?_)
       refine zza 63 (zI k) (zzg 64 101 [.func (.func 178) #[] #[.pointer (some ⟨b137, 0, none⟩), .pointer (some ⟨b143, 0, none⟩)], .int .i64 k] ?_)
       intro w149 u149 e149 d149
       have k156 := k_irrCos (k := k) d149 ((e145.trans e149).cells hh142) (e149.cells hh148) hq0 xq xq xq (hG r xq xq xq) hg3 xq
       with_reducible refine zPm k156 ?_
       rintro _ u154 g155 ⟨r150, r152, rfl, h151, h153⟩
       refine zzi ⟨32, r150.cs ++ r152.cs⟩ ty32 ?_
       refine zzb (zzn (ret0 [.agg #[.bool r150.s, .slice r150.m.a r150.m.n r150.m.c, .slice r150.d.a r150.d.n r150.d.c, .bool r152.s, .slice r152.m.a r152.m.n r152.m.c, .slice r152.d.a r152.d.n r152.d.c]] ⟨zzq ty32 zze, trivial⟩ fun u157 e158 => ?_))
       have hc := Nt.cosA_g (r := r) (q := q) (b := k) (by have h9 := hb86; simp at h9; omega) (by have h9 := hb103; simp at h9; omega) (by have h9 := hb120; simp at h9; omega)
       refine ⟨r150, r152, rfl, RatN.more (K := 70) ?_ xq, RatN.more (K := 70) ?_ xq⟩
       ·rw [hc]; exact (h151.ext e158)
       ·rw [hc]; exact (h153.ext e158)
 ·replace hb11 : (decide ((Int.tmod p (2 * (q : Int))) < 0)) = false := hb11
  have qhb11 := of_decide_eq_false hb11
  refine zzr (zzo ?_)
  refine zzd (sq9 (zzh 16 (zI (Int.tmod p (2 * (q : Int)))) ty3 zzk (zzh 17 (zI q) ty3 zzk (zza 18 (zB (decide ((q : Int) < (Int.tmod p (2 * (q : Int)))))) (zzb (zzt (b := decide ((q : Int) < (Int.tmod p (2 * (q : Int))))) xj (fun hb159 => ?_) (fun hb159 => ?_)))))))
  ·replace hb159 : (decide ((q : Int) < (Int.tmod p (2 * (q : Int))))) = true := hb159
   have qhb159 := of_decide_eq_true hb159
   refine zzf (zzh 19 (zI q) ty3 zzk (zyp 20 (x := zI (IntKind.i64.wrap ((2 : Int) * (q : Int)))) (zI (2 * q : Nat)) (eqI xz) (zzh 21 (zI (Int.tmod p (2 * (q : Int)))) ty3 zzk (zyp 22 (x := zI (IntKind.i64.wrap (((2 * q : Nat) : Int) - (Int.tmod p (2 * (q : Int)))))) (zI (((2 * q : Nat) : Int) - (Int.tmod p (2 * (q : Int))))) yq (zzi ⟨3, [.int .i64 (((2 * q : Nat) : Int) - (Int.tmod p (2 * (q : Int))))]⟩ ty3 ?_)))))
   refine zzb (zzd (zzd ?_))
   have hfold : (((2 * q : Nat) : Int) - (Int.tmod p (2 * (q : Int)))) = ((Nt.fold p q : Nat) : Int) := by unfold Nt.fold; dsimp only; split <;> omega
   rw [hfold]
   have hfl := Nt.fold_le p q hq0
   obtain ⟨r, hr⟩ : ∃ r, Nt.fold p q = r := ⟨_, rfl⟩
   rw [hr] at hfl ⊢
   clear hfold
   rw [hr] at hA
   refine zzf (zzh 23 (zI r) ty3 zzk (zyp 24 (x := zI (IntKind.i64.wrap ((2 : Int) * (r : Int)))) (zI (2 * r : Nat)) (eqI xz) (zzh 25 (zI q) ty3 zzk (zza 26 (zB (decide ((q : Int) < ((2 * r : Nat) : Int)))) (zzb (zzt (b := decide ((q : Int) < ((2 * r : Nat) : Int))) xj (fun hb => ?_) (fun hb => ?_)))))))
   ·exact absurd hb (by rw [show (decide ((q : Int) < ((2 * r : Nat) : Int))) = false from decide_eq_false xq]; decide)
   ·clear hb
    refine zzr (zzo ?_)
    refine zzd (zzs (sq9 (zzh 41 (zI r) ty3 zzk (zza 42 (zB ((r : Int) == 0)) (zza 40 (zB ((r : Int) == 0)) (zzb (zzt (b := (r : Int) == 0) xj (fun hb160 => ?_) (fun hb160 => ?_))))))))
    ·replace hb160 : ((r : Int) == 0) = true := hb160
     have qhb160 : (r : Int) = 0 := by simpa using hb160
     refine sq9 (zzg 43 118 [.int .i64 1] ?_)
     intro w161 u161 e161 d161
     have k166 := k_ratOf d161 (z := 1) xq xq
     with_reducible refine zPm k166 ?_
     rintro _ u164 g165 ⟨r162, rfl, h163⟩
     refine zza 44 (zI k) (zzg 45 177 [r162.v, .int .i64 k] ?_)
     intro w167 u167 e167 d167
     have k174 := k_exactly (k := k) d167 (h163.ext e167) xq xq
     with_reducible refine zPm k174 ?_
     rintro _ u172 g173 ⟨r168, r170, rfl, h169, h171⟩
     refine zzi ⟨32, r168.cs ++ r170.cs⟩ ty32 ?_
     refine zzb (zzn (zyt (zzv (ret0 [.agg #[.bool r168.s, .slice r168.m.a r168.m.n r168.m.c, .slice r168.d.a r168.d.n r168.d.c, .bool r170.s, .slice r170.m.a r170.m.n r170.m.c, .slice r170.d.a r170.d.n r170.d.c]] ⟨zzq ty32 zze, trivial⟩ fun u175 e176 => ?_))))
     have hc := Nt.cosA_0 (r := r) (q := q) (b := k) (by have h9 := hb160; simp at h9; omega)
     refine ⟨r168, r170, rfl, RatN.more (K := 80) ?_ xq, RatN.more (K := 80) ?_ xq⟩
     ·rw [hc]; exact (h169.ext e176)
     ·rw [hc]; exact (h171.ext e176)
    ·replace hb160 : ((r : Int) == 0) = false := hb160
     have qhb160 : ¬ ((r : Int) = 0) := by simpa using hb160
     refine sq9 (zzh 47 (zI r) ty3 zzk (zyp 48 (x := zI (IntKind.i64.wrap ((2 : Int) * (r : Int)))) (zI (2 * r : Nat)) (eqI xz) (zzh 49 (zI q) ty3 zzk (zza 50 (zB (((2 * r : Nat) : Int) == (q : Int))) (zza 46 (zB (((2 * r : Nat) : Int) == (q : Int))) (zzb (zzt (b := ((2 * r : Nat) : Int) == (q : Int)) xj (fun hb177 => ?_) (fun hb177 => ?_))))))))
     ·replace hb177 : (((2 * r : Nat) : Int) == (q : Int)) = true := hb177
      refine sq9 (zzg 51 118 [.int .i64 0] ?_)
      intro w178 u178 e178 d178
      have k183 := k_ratOf d178 (z := 0) xq xq
      with_reducible refine zPm k183 ?_
      rintro _ u181 g182 ⟨r179, rfl, h180⟩
      refine zza 52 (zI k) (zzg 53 177 [r179.v, .int .i64 k] ?_)
      intro w184 u184 e184 d184
      have k191 := k_exactly (k := k) d184 (h180.ext e184) xq xq
      with_reducible refine zPm k191 ?_
      rintro _ u189 g190 ⟨r185, r187, rfl, h186, h188⟩
      refine zzi ⟨32, r185.cs ++ r187.cs⟩ ty32 ?_
      refine zzc 65 [(6, .adr 6 0)] [(6, ⟨32, r185.cs ++ r187.cs⟩)] (zzn (zyt (zzv (ret0 [.agg #[.bool r185.s, .slice r185.m.a r185.m.n r185.m.c, .slice r185.d.a r185.d.n r185.d.c, .bool r187.s, .slice r187.m.a r187.m.n r187.m.c, .slice r187.d.a r187.d.n r187.d.c]] ⟨zzq ty32 zze, trivial⟩ fun u192 e193 => ?_))))
      have hc := Nt.cosA_h (r := r) (q := q) (b := k) (by have h9 := hb160; simp at h9; omega) (by have h9 := hb177; simp at h9; omega)
      refine ⟨r185, r187, rfl, RatN.more (K := 80) ?_ xq, RatN.more (K := 80) ?_ xq⟩
      ·rw [hc]; exact (h186.ext e193)
      ·rw [hc]; exact (h188.ext e193)
     ·replace hb177 : (((2 * r : Nat) : Int) == (q : Int)) = false := hb177
      have q9hb177 : ¬ 2 * r = q := by have h9 := hb177; simp at h9; omega
      refine sq9 (zzh 55 (zI r) ty3 zzk (zyp 56 (x := zI (IntKind.i64.wrap ((3 : Int) * (r : Int)))) (zI (3 * r : Nat)) (eqI xz) (zzh 57 (zI q) ty3 zzk (zza 58 (zB (((3 * r : Nat) : Int) == (q : Int))) (zza 54 (zB (((3 * r : Nat) : Int) == (q : Int))) (zzc 65 [(2, zI k), (3, .adr 3 0), (4, .adr 4 0), (6, .adr 6 0), (54, zB (((3 * r : Nat) : Int) == (q : Int)))] [(3, ⟨3, [.int .i64 r]⟩), (4, ⟨3, [.int .i64 q]⟩), (6, ⟨32, [.bool false, .slice none 0 0, .slice none 0 0, .bool false, .slice none 0 0, .slice none 0 0]⟩)] (zzt (b := ((3 * r : Nat) : Int) == (q : Int)) xj (fun hb194 => ?_) (fun hb194 => ?_))))))))
      ·replace hb194 : (((3 * r : Nat) : Int) == (q : Int)) = true := hb194
       refine sq9 (zzg 59 127 [.int .i64 1, .int .i64 2] ?_)
       intro w195 u195 e195 d195
       have k200 := k_ratFrac d195 (a := 1) (b := 2) xq xq xq xq
       with_reducible refine zPm k200 ?_
       rintro _ u198 g199 ⟨r196, rfl, h197⟩
       refine zza 60 (zI k) (zzg 61 177 [r196.v, .int .i64 k] ?_)
       intro w201 u201 e201 d201
       have k208 := k_exactly (k := k) d201 (h197.ext e201) xq xq
       with_reducible refine zPm k208 ?_
       rintro _ u206 g207 ⟨r202, r204, rfl, h203, h205⟩
       refine zzi ⟨32, r202.cs ++ r204.cs⟩ ty32 ?_
       refine zzb (zzn (zyt (zzv (ret0 [.agg #[.bool r202.s, .slice r202.m.a r202.m.n r202.m.c, .slice r202.d.a r202.d.n r202.d.c, .bool r204.s, .slice r204.m.a r204.m.n r204.m.c, .slice r204.d.a r204.d.n r204.d.c]] ⟨zzq ty32 zze, trivial⟩ fun u209 e210 => ?_))))
       have hc := Nt.cosA_3 (r := r) (q := q) (b := k) (by have h9 := hb160; simp at h9; omega) (by have h9 := hb177; simp at h9; omega) (by have h9 := hb194; simp at h9; omega)
       refine ⟨r202, r204, rfl, RatN.more (K := 80) ?_ xq, RatN.more (K := 80) ?_ xq⟩
       ·rw [hc]; exact (h203.ext e210)
       ·rw [hc]; exact (h205.ext e210)
      ·replace hb194 : (((3 * r : Nat) : Int) == (q : Int)) = false := hb194
       have q9hb194 : ¬ 3 * r = q := by have h9 := hb194; simp at h9; omega
       refine zzr (zzo ?_)
       refine zzd (sw_pubA (r := 3) (t := 3) [3] xk xj (by rfl) (by rfl) xj (fun b211 u212 e213 hb214 hv215 hh216 => ?_))
       refine sw_pubA (r := 4) (t := 4) [4] xk xj (by rfl) (by rfl) xj (fun b217 u218 e219 hb220 hv221 hh222 => ?_)
       refine zzf (sy_fun 62 [.pointer (some ⟨b211, 0, none⟩), .pointer (some ⟨b217, 0, none⟩)] ?_)
       refine zza 63 (zI k) (zzg 64 101 [.func (.func 178) #[] #[.pointer (some ⟨b211, 0, none⟩), .pointer (some ⟨b217, 0, none⟩)], .int .i64 k] ?_)
       intro w223 u223 e223 d223
       have k230 := k_irrCos (k := k) d223 ((e219.trans e223).cells hh216) (e223.cells hh222) hq0 xq xq xq (hG r xq xq xq) hg3 xq
       with_reducible refine zPm k230 ?_
       rintro _ u228 g229 ⟨r224, r226, rfl, h225, h227⟩
       refine zzi ⟨32, r224.cs ++ r226.cs⟩ ty32 ?_
       refine zzb (zzn (ret0 [.agg #[.bool r224.s, .slice r224.m.a r224.m.n r224.m.c, .slice r224.d.a r224.d.n r224.d.c, .bool r226.s, .slice r226.m.a r226.m.n r226.m.c, .slice r226.d.a r226.d.n r226.d.c]] ⟨zzq ty32 zze, trivial⟩ fun u231 e232 => ?_))
       have hc := Nt.cosA_g (r := r) (q := q) (b := k) (by have h9 := hb160; simp at h9; omega) (by have h9 := hb177; simp at h9; omega) (by have h9 := hb194; simp at h9; omega)
       refine ⟨r224, r226, rfl, RatN.more (K := 70) ?_ xq, RatN.more (K := 70) ?_ xq⟩
       ·rw [hc]; exact (h225.ext e232)
       ·rw [hc]; exact (h227.ext e232)
  ·replace hb159 : (decide ((q : Int) < (Int.tmod p (2 * (q : Int))))) = false := hb159
   have qhb159 := of_decide_eq_false hb159
   refine zzr (zzo ?_)
   refine zzd (zzd ?_)
   have hfold : (Int.tmod p (2 * (q : Int))) = ((Nt.fold p q : Nat) : Int) := by unfold Nt.fold; dsimp only; split <;> omega
   rw [hfold]
   have hfl := Nt.fold_le p q hq0
   obtain ⟨r, hr⟩ : ∃ r, Nt.fold p q = r := ⟨_, rfl⟩
   rw [hr] at hfl ⊢
   clear hfold
   rw [hr] at hA
   refine zzf (zzh 23 (zI r) ty3 zzk (zyp 24 (x := zI (IntKind.i64.wrap ((2 : Int) * (r : Int)))) (zI (2 * r : Nat)) (eqI xz) (zzh 25 (zI q) ty3 zzk (zza 26 (zB (decide ((q : Int) < ((2 * r : Nat) : Int)))) (zzb (zzt (b := decide ((q : Int) < ((2 * r : Nat) : Int))) xj (fun hb => ?_) (fun hb => ?_)))))))
   ·exact absurd hb (by rw [show (decide ((q : Int) < ((2 * r : Nat) : Int))) = false from decide_eq_false xq]; decide)
   ·clear hb
    refine zzr (zzo ?_)
    refine zzd (zzs (sq9 (zzh 41 (zI r) ty3 zzk (zza 42 (zB ((r : Int) == 0)) (zza 40 (zB ((r : Int) == 0)) (zzb (zzt (b := (r : Int) == 0) xj (fun hb233 => ?_) (fun hb233 => ?_))))))))
    ·replace hb233 : ((r : Int) == 0) = true := hb233
     have qhb233 : (r : Int) = 0 := by simpa using hb233
     refine sq9 (zzg 43 118 [.int .i64 1] ?_)
     intro w234 u234 e234 d234
     have k239 := k_ratOf d234 (z := 1) xq xq
     with_reducible refine zPm k239 ?_
     rintro _ u237 g238 ⟨r235, rfl, h236⟩
     refine zza 44 (zI k) (zzg 45 177 [r235.v, .int .i64 k] ?_)
     intro w240 u240 e240 d240
     have k247 := k_exactly (k := k) d240 (h236.ext e240) xq xq
     with_reducible refine zPm k247 ?_
     rintro _ u245 g246 ⟨r241, r243, rfl, h242, h244⟩
     refine zzi ⟨32, r241.cs ++ r243.cs⟩ ty32 ?_
     refine zzb (zzn (zyt (zzv (ret0 [.agg #[.bool r241.s, .slice r241.m.a r241.m.n r241.m.c, .slice r241.d.a r241.d.n r241.d.c, .bool r243.s, .slice r243.m.a r243.m.n r243.m.c, .slice r243.d.a r243.d.n r243.d.c]] ⟨zzq ty32 zze, trivial⟩ fun u248 e249 => ?_))))
     have hc := Nt.cosA_0 (r := r) (q := q) (b := k) (by have h9 := hb233; simp at h9; omega)
     refine ⟨r241, r243, rfl, RatN.more (K := 80) ?_ xq, RatN.more (K := 80) ?_ xq⟩
     ·rw [hc]; exact (h242.ext e249)
     ·rw [hc]; exact (h244.ext e249)
    ·replace hb233 : ((r : Int) == 0) = false := hb233
     have qhb233 : ¬ ((r : Int) = 0) := by simpa using hb233
     refine sq9 (zzh 47 (zI r) ty3 zzk (zyp 48 (x := zI (IntKind.i64.wrap ((2 : Int) * (r : Int)))) (zI (2 * r : Nat)) (eqI xz) (zzh 49 (zI q) ty3 zzk (zza 50 (zB (((2 * r : Nat) : Int) == (q : Int))) (zza 46 (zB (((2 * r : Nat) : Int) == (q : Int))) (zzb (zzt (b := ((2 * r : Nat) : Int) == (q : Int)) xj (fun hb250 => ?_) (fun hb250 => ?_))))))))
     ·replace hb250 : (((2 * r : Nat) : Int) == (q : Int)) = true := hb250
      refine sq9 (zzg 51 118 [.int .i64 0] ?_)
      intro w251 u251 e251 d251
      have k256 := k_ratOf d251 (z := 0) xq xq
      with_reducible refine zPm k256 ?_
      rintro _ u254 g255 ⟨r252, rfl, h253⟩
      refine zza 52 (zI k) (zzg 53 177 [r252.v, .int .i64 k] ?_)
      intro w257 u257 e257 d257
      have k264 := k_exactly (k := k) d257 (h253.ext e257) xq xq
      with_reducible refine zPm k264 ?_
      rintro _ u262 g263 ⟨r258, r260, rfl, h259, h261⟩
      refine zzi ⟨32, r258.cs ++ r260.cs⟩ ty32 ?_
      refine zzb (zzn (zyt (zzv (ret0 [.agg #[.bool r258.s, .slice r258.m.a r258.m.n r258.m.c, .slice r258.d.a r258.d.n r258.d.c, .bool r260.s, .slice r260.m.a r260.m.n r260.m.c, .slice r260.d.a r260.d.n r260.d.c]] ⟨zzq ty32 zze, trivial⟩ fun u265 e266 => ?_))))
      have hc := Nt.cosA_h (r := r) (q := q) (b := k) (by have h9 := hb233; simp at h9; omega) (by have h9 := hb250; simp at h9; omega)
      refine ⟨r258, r260, rfl, RatN.more (K := 80) ?_ xq, RatN.more (K := 80) ?_ xq⟩
      ·rw [hc]; exact (h259.ext e266)
      ·rw [hc]; exact (h261.ext e266)
     ·replace hb250 : (((2 * r : Nat) : Int) == (q : Int)) = false := hb250
      have q9hb250 : ¬ 2 * r = q := by have h9 := hb250; simp at h9; omega
      refine sq9 (zzh 55 (zI r) ty3 zzk (zyp 56 (x := zI (IntKind.i64.wrap ((3 : Int) * (r : Int)))) (zI (3 * r : Nat)) (eqI xz) (zzh 57 (zI q) ty3 zzk (zza 58 (zB (((3 * r : Nat) : Int) == (q : Int))) (zza 54 (zB (((3 * r : Nat) : Int) == (q : Int))) (zzb (zzt (b := ((3 * r : Nat) : Int) == (q : Int)) xj (fun hb267 => ?_) (fun hb267 => ?_))))))))
      ·replace hb267 : (((3 * r : Nat) : Int) == (q : Int)) = true := hb267
       refine sq9 (zzg 59 127 [.int .i64 1, .int .i64 2] ?_)
       intro w268 u268 e268 d268
       have k273 := k_ratFrac d268 (a := 1) (b := 2) xq xq xq xq
       with_reducible refine zPm k273 ?_
       rintro _ u271 g272 ⟨r269, rfl, h270⟩
       refine zza 60 (zI k) (zzg 61 177 [r269.v, .int .i64 k] ?_)
       intro w274 u274 e274 d274
       have k281 := k_exactly (k := k) d274 (h270.ext e274) xq xq
       with_reducible refine zPm k281 ?_
       rintro _ u279 g280 ⟨r275, r277, rfl, h276, h278⟩
       refine zzi ⟨32, r275.cs ++ r277.cs⟩ ty32 ?_
       refine zzc 65 [(6, .adr 6 0)] [(6, ⟨32, r275.cs ++ r277.cs⟩)] (zzn (zyt (zzv (ret0 [.agg #[.bool r275.s, .slice r275.m.a r275.m.n r275.m.c, .slice r275.d.a r275.d.n r275.d.c, .bool r277.s, .slice r277.m.a r277.m.n r277.m.c, .slice r277.d.a r277.d.n r277.d.c]] ⟨zzq ty32 zze, trivial⟩ fun u282 e283 => ?_))))
       have hc := Nt.cosA_3 (r := r) (q := q) (b := k) (by have h9 := hb233; simp at h9; omega) (by have h9 := hb250; simp at h9; omega) (by have h9 := hb267; simp at h9; omega)
       refine ⟨r275, r277, rfl, RatN.more (K := 80) ?_ xq, RatN.more (K := 80) ?_ xq⟩
       ·rw [hc]; exact (h276.ext e283)
       ·rw [hc]; exact (h278.ext e283)
      ·replace hb267 : (((3 * r : Nat) : Int) == (q : Int)) = false := hb267
       have q9hb267 : ¬ 3 * r = q := by have h9 := hb267; simp at h9; omega
       refine zzr (zzo ?_)
       refine zzd (sw_pubA (r := 3) (t := 3) [3] xk xj (by rfl) (by rfl) xj (fun b284 u285 e286 hb287 hv288 hh289 => ?_))
       refine sw_pubA (r := 4) (t := 4) [4] xk xj (by rfl) (by rfl) xj (fun b290 u291 e292 hb293 hv294 hh295 => ?_)
       refine zzf (sy_fun 62 [.pointer (some ⟨b284, 0, none⟩), .pointer (some ⟨b290, 0, none⟩)] ?_)
       refine zza 63 (zI k) (zzg 64 101 [.func (.func 178) #[] #[.pointer (some ⟨b284, 0, none⟩), .pointer (some ⟨b290, 0, none⟩)], .int .i64 k] ?_)
       intro w296 u296 e296 d296
       have k303 := k_irrCos (k := k) d296 ((e292.trans e296).cells hh289) (e296.cells hh295) hq0 xq xq xq (hG r xq xq xq) hg3 xq
       with_reducible refine zPm k303 ?_
       rintro _ u301 g302 ⟨r297, r299, rfl, h298, h300⟩
       refine zzi ⟨32, r297.cs ++ r299.cs⟩ ty32 ?_
       refine zzc 65 [(6, .adr 6 0)] [(6, ⟨32, r297.cs ++ r299.cs⟩)] (zzn (ret0 [.agg #[.bool r297.s, .slice r297.m.a r297.m.n r297.m.c, .slice r297.d.a r297.d.n r297.d.c, .bool r299.s, .slice r299.m.a r299.m.n r299.m.c, .slice r299.d.a r299.d.n r299.d.c]] ⟨zzq ty32 zze, trivial⟩ fun u304 e305 => ?_))
       have hc := Nt.cosA_g (r := r) (q := q) (b := k) (by have h9 := hb233; simp at h9; omega) (by have h9 := hb250; simp at h9; omega) (by have h9 := hb267; simp at h9; omega)
       refine ⟨r297, r299, rfl, RatN.more (K := 70) ?_ xq, RatN.more (K := 70) ?_ xq⟩
       ·rw [hc]; exact (h298.ext e305)
       ·rw [hc]; exact (h300.ext e305)
set_option maxHeartbeats 4000000 in
theorem k_cosine {u w : World} {p : Int} {q k : Nat} (d : Dat u w) (hq0 : 0 < q) (hq2 : q ≤ 10000) (hG0 : Nt.GapQ q k) (hp0 : -1000000000 ≤ p) (hp1 : p ≤ 1000000000) (hk : k ≤ 256)  : Calls Tryz.prog 100 #[.int .i64 p, .int .i64 (q : Int), .int .i64 (k : Int)] w (Post u w fun v u' => ∃ r1 r2 : RL, v = IV r1 r2 ∧ RatN u' r1 ((Nt.cosV p q k).1) 80 ∧ RatN u' r2 ((Nt.cosV p q k).2) 80) := by
 have htm := Nt.tmod_bd p hq0
 obtain ⟨g, hg3, hG⟩ := id hG0
 refine zzl (args := [.int .i64 p, .int .i64 q, .int .i64 k]) Tryz.func100 rfl Tryz.ntmps100 (rs := [.cell 6 32]) Tryz.results100 (le_b rfl) (le_b rfl) d ?_
 refine sq9 (zzj 3 ⟨3, [.int .i64 p]⟩ (zzj 4 ⟨3, [.int .i64 q]⟩ (zzj 6 ⟨32, [.bool false, .slice none 0 0, .slice none 0 0, .bool false, .slice none 0 0, .slice none 0 0]⟩ (zzb (sq9 (zzh 8 (zI p) ty3 zzk (zzh 9 (zI q) ty3 zzk (zyp 10 (x := zI (IntKind.i64.wrap ((2 : Int) * (q : Int)))) (zI (2 * q : Nat)) (eqI xz) (sy_rem 11 (m := ((2 * q : Nat) : Int)) (Int.tmod p (2 * (q : Int))) xq (by rw [Int.natCast_mul]; rfl) ?_)))))))))
 refine zzi ⟨3, [.int .i64 (Int.tmod p (2 * (q : Int)))]⟩ ty3 ?_
 refine zzb (zzd (sq9 (zzh 12 (zI (Int.tmod p (2 * (q : Int)))) ty3 zzk (zza 13 (zB (decide ((Int.tmod p (2 * (q : Int))) < 0))) (zzb (zzt (b := decide ((Int.tmod p (2 * (q : Int))) < 0)) xj (fun hb11 => ?_) (fun hb11 => ?_)))))))
 ·replace hb11 : (decide ((Int.tmod p (2 * (q : Int))) < 0)) = true := hb11
  have qhb11 := of_decide_eq_true hb11
  refine zzf (zzh 14 (zI (Int.tmod p (2 * (q : Int)))) ty3 zzk (zyp 15 (x := zI (IntKind.i64.wrap (0 - (Int.tmod p (2 * (q : Int)))))) (zI (-(Int.tmod p (2 * (q : Int))))) (eqI xz) (zzi ⟨3, [.int .i64 (-(Int.tmod p (2 * (q : Int))))]⟩ ty3 ?_)))
  refine zzb (zzd (sq9 (zzh 16 (zI (-(Int.tmod p (2 * (q : Int))))) ty3 zzk (zzh 17 (zI q) ty3 zzk (zza 18 (zB (decide ((q : Int) < (-(Int.tmod p (2 * (q : Int))))))) (zzb (zzt (b := decide ((q : Int) < (-(Int.tmod p (2 * (q : Int)))))) xj (fun hb12 => ?_) (fun hb12 => ?_))))))))
  ·replace hb12 : (decide ((q : Int) < (-(Int.tmod p (2 * (q : Int)))))) = true := hb12
   have qhb12 := of_decide_eq_true hb12
   refine zzf (zzh 19 (zI q) ty3 zzk (zyp 20 (x := zI (IntKind.i64.wrap ((2 : Int) * (q : Int)))) (zI (2 * q : Nat)) (eqI xz) (zzh 21 (zI (-(Int.tmod p (2 * (q : Int))))) ty3 zzk (zyp 22 (x := zI (IntKind.i64.wrap (((2 * q : Nat) : Int) - (-(Int.tmod p (2 * (q : Int))))))) (zI (((2 * q : Nat) : Int) - (-(Int.tmod p (2 * (q : Int)))))) yq (zzi ⟨3, [.int .i64 (((2 * q : Nat) : Int) - (-(Int.tmod p (2 * (q : Int)))))]⟩ ty3 ?_)))))
   refine zzb (zzd (zzd ?_))
   have hfold : (((2 * q : Nat) : Int) - (-(Int.tmod p (2 * (q : Int))))) = ((Nt.fold p q : Nat) : Int) := by unfold Nt.fold; dsimp only; split <;> omega
   rw [hfold]
   have hfl := Nt.fold_le p q hq0
   obtain ⟨r, hr⟩ : ∃ r, Nt.fold p q = r := ⟨_, rfl⟩
   rw [hr] at hfl ⊢
   clear hfold
   refine zzf (zzh 23 (zI r) ty3 zzk (zyp 24 (x := zI (IntKind.i64.wrap ((2 : Int) * (r : Int)))) (zI (2 * r : Nat)) (eqI xz) (zzh 25 (zI q) ty3 zzk (zza 26 (zB (decide ((q : Int) < ((2 * r : Nat) : Int)))) (zzb (zzt (b := decide ((q : Int) < ((2 * r : Nat) : Int))) xj (fun hb13 => ?_) (fun hb13 => ?_)))))))
   ·replace hb13 : (decide ((q : Int) < ((2 * r : Nat) : Int))) = true := hb13
    have qhb13 := of_decide_eq_true hb13
    have hb9 := hb13
    refine sq9 (zzh 27 (zI q) ty3 zzk (zzh 28 (zI r) ty3 zzk (zyp 29 (x := zI (IntKind.i64.wrap ((q : Int) - (r : Int)))) (zI (q - r : Nat)) (eqI xz) (zzh 30 (zI q) ty3 zzk (zza 31 (zI k) (zzg 32 100 [.int .i64 (q - r : Nat), .int .i64 q, .int .i64 k] ?_))))))
    intro w14 u14 e14 d14
    have k21 := (show Calls _ _ #[.int .i64 ((q - r : Nat) : Int), .int .i64 (q : Int), .int .i64 (k : Int)] _ _ from (by have h9 := k_cosA (p := ((q - r : Nat) : Int)) (q := q) (k := k) d14 hq0 hq2 hG0 xq xq hk (by rw [Nt.fold_id xq]; have h8 := of_decide_eq_true hb9; omega); rw [Nt.fold_id xq] at h9; exact h9))
    with_reducible refine zPm k21 ?_
    rintro _ u19 g20 ⟨r15, r17, rfl, h16, h18⟩
    refine zzj 7 ⟨32, [.bool false, .slice none 0 0, .slice none 0 0, .bool false, .slice none 0 0, .slice none 0 0]⟩ (zzi ⟨32, r15.cs ++ r17.cs⟩ ty32 ?_)
    refine zzc 65 [(6, .adr 6 0), (7, .adr 7 0)] [(6, ⟨32, [.bool false, .slice none 0 0, .slice none 0 0, .bool false, .slice none 0 0, .slice none 0 0]⟩), (7, ⟨32, r15.cs ++ r17.cs⟩)] (zzd (zzy [0, 1, 3, 0, 8, 31, 63, 127] [(0, []), (1, []), (3, []), (4, []), (2, []), (5, []), (6, []), (7, [])] xj xj (zza 33 (.adr 7 3) (zzh 34 (.v (r17.v)) ty26 zze (zza 36 (.adr 7 0) (zzh 37 (.v (r15.v)) ty26 zze (zzg 35 176 [r17.v] ?_)))))))
    intro w22 u22 e22 d22
    have k27 := k_ratNeg d22 (h18.ext e22).raw xq
    with_reducible refine zPm k27 ?_
    rintro _ u25 g26 ⟨r23, rfl, h24⟩
    refine zzg 38 176 [r15.v] ?_
    intro w28 u28 e28 d28
    have k33 := k_ratNeg d28 (h16.ext (e22.trans (g26.ext.trans e28))).raw xq
    with_reducible refine zPm k33 ?_
    rintro _ u31 g32 ⟨r29, rfl, h30⟩
    refine zza 39 (.v (.agg #[.bool r23.s, r23.m.v, r23.d.v, .bool r29.s, r29.m.v, r29.d.v])) (zzi ⟨32, r23.cs ++ r29.cs⟩ ty32 ?_)
    refine zzb (zzn (zzv (ret0 [.agg #[.bool r23.s, .slice r23.m.a r23.m.n r23.m.c, .slice r23.d.a r23.d.n r23.d.c, .bool r29.s, .slice r29.m.a r29.m.n r29.m.c, .slice r29.d.a r29.d.n r29.d.c]] ⟨zzq ty32 zze, trivial⟩ fun u34 e35 => ?_)))
    have hc := Nt.cosV_hi (b := k) hr (by have h9 := of_decide_eq_true hb13; omega)
    refine ⟨r23, r29, rfl, RatN.more (K := 80) ?_ xq, RatN.more (K := 80) ?_ xq⟩
    ·rw [hc]; exact (h24.ext (e28.trans (g32.ext.trans e35)))
    ·rw [hc]; exact (h30.ext e35)
   ·replace hb13 : (decide ((q : Int) < ((2 * r : Nat) : Int))) = false := hb13
    have qhb13 := of_decide_eq_false hb13
    refine zzr (zzo ?_)
    refine zzd (zzs (sq9 (zzh 41 (zI r) ty3 zzk (zza 42 (zB ((r : Int) == 0)) (zza 40 (zB ((r : Int) == 0)) (zzb (zzt (b := (r : Int) == 0) xj (fun hb36 => ?_) (fun hb36 => ?_))))))))
    ·replace hb36 : ((r : Int) == 0) = true := hb36
     have qhb36 : (r : Int) = 0 := by simpa using hb36
     refine sq9 (zzg 43 118 [.int .i64 1] ?_)
     intro w37 u37 e37 d37
     have k42 := k_ratOf d37 (z := 1) xq xq
     with_reducible refine zPm k42 ?_
     rintro _ u40 g41 ⟨r38, rfl, h39⟩
     refine zza 44 (zI k) (zzg 45 177 [r38.v, .int .i64 k] ?_)
     intro w43 u43 e43 d43
     have k50 := k_exactly (k := k) d43 (h39.ext e43) xq xq
     with_reducible refine zPm k50 ?_
     rintro _ u48 g49 ⟨r44, r46, rfl, h45, h47⟩
     refine zzi ⟨32, r44.cs ++ r46.cs⟩ ty32 ?_
     refine zzc 65 [(6, .adr 6 0)] [(6, ⟨32, r44.cs ++ r46.cs⟩)] (zzn (zyt (zzv (ret0 [.agg #[.bool r44.s, .slice r44.m.a r44.m.n r44.m.c, .slice r44.d.a r44.d.n r44.d.c, .bool r46.s, .slice r46.m.a r46.m.n r46.m.c, .slice r46.d.a r46.d.n r46.d.c]] ⟨zzq ty32 zze, trivial⟩ fun u51 e52 => ?_))))
     have hc := (Nt.cosV_lo (b := k) hr (by have h9 := of_decide_eq_false hb13; omega)).trans (Nt.cosA_0 (r := r) (q := q) (b := k) (by have h9 := hb36; simp at h9; omega))
     refine ⟨r44, r46, rfl, RatN.more (K := 80) ?_ xq, RatN.more (K := 80) ?_ xq⟩
     ·rw [hc]; exact (h45.ext e52)
     ·rw [hc]; exact (h47.ext e52)
    ·replace hb36 : ((r : Int) == 0) = false := hb36
     have qhb36 : ¬ ((r : Int) = 0) := by simpa using hb36
     refine sq9 (zzh 47 (zI r) ty3 zzk (zyp 48 (x := zI (IntKind.i64.wrap ((2 : Int) * (r : Int)))) (zI (2 * r : Nat)) (eqI xz) (zzh 49 (zI q) ty3 zzk (zza 50 (zB (((2 * r : Nat) : Int) == (q : Int))) (zza 46 (zB (((2 * r : Nat) : Int) == (q : Int))) (zzc 65 [(2, zI k), (3, .adr 3 0), (4, .adr 4 0), (6, .adr 6 0), (46, zB (((2 * r : Nat) : Int) == (q : Int)))] [(3, ⟨3, [.int .i64 r]⟩), (4, ⟨3, [.int .i64 q]⟩), (6, ⟨32, [.bool false, .slice none 0 0, .slice none 0 0, .bool false, .slice none 0 0, .slice none 0 0]⟩)] (zzt (b := ((2 * r : Nat) : Int) == (q : Int)) xj (fun hb53 => ?_) (fun hb53 => ?_))))))))
     ·replace hb53 : (((2 * r : Nat) : Int) == (q : Int)) = true := hb53
      refine sq9 (zzg 51 118 [.int .i64 0] ?_)
      intro w54 u54 e54 d54
      have k59 := k_ratOf d54 (z := 0) xq xq
      with_reducible refine zPm k59 ?_
      rintro _ u57 g58 ⟨r55, rfl, h56⟩
      refine zza 52 (zI k) (zzg 53 177 [r55.v, .int .i64 k] ?_)
      intro w60 u60 e60 d60
      have k67 := k_exactly (k := k) d60 (h56.ext e60) xq xq
      with_reducible refine zPm k67 ?_
      rintro _ u65 g66 ⟨r61, r63, rfl, h62, h64⟩
      refine zzi ⟨32, r61.cs ++ r63.cs⟩ ty32 ?_
      refine zzb (zzn (zyt (zzv (ret0 [.agg #[.bool r61.s, .slice r61.m.a r61.m.n r61.m.c, .slice r61.d.a r61.d.n r61.d.c, .bool r63.s, .slice r63.m.a r63.m.n r63.m.c, .slice r63.d.a r63.d.n r63.d.c]] ⟨zzq ty32 zze, trivial⟩ fun u68 e69 => ?_))))
      have hc := (Nt.cosV_lo (b := k) hr (by have h9 := of_decide_eq_false hb13; omega)).trans (Nt.cosA_h (r := r) (q := q) (b := k) (by have h9 := hb36; simp at h9; omega) (by have h9 := hb53; simp at h9; omega))
      refine ⟨r61, r63, rfl, RatN.more (K := 80) ?_ xq, RatN.more (K := 80) ?_ xq⟩
      ·rw [hc]; exact (h62.ext e69)
      ·rw [hc]; exact (h64.ext e69)
     ·replace hb53 : (((2 * r : Nat) : Int) == (q : Int)) = false := hb53
      have q9hb53 : ¬ 2 * r = q := by have h9 := hb53; simp at h9; omega
      refine sq9 (zzh 55 (zI r) ty3 zzk (zyp 56 (x := zI (IntKind.i64.wrap ((3 : Int) * (r : Int)))) (zI (3 * r : Nat)) (eqI xz) (zzh 57 (zI q) ty3 zzk (zza 58 (zB (((3 * r : Nat) : Int) == (q : Int))) (zza 54 (zB (((3 * r : Nat) : Int) == (q : Int))) (zzb (zzt (b := ((3 * r : Nat) : Int) == (q : Int)) xj (fun hb70 => ?_) (fun hb70 => ?_))))))))
      ·replace hb70 : (((3 * r : Nat) : Int) == (q : Int)) = true := hb70
       refine sq9 (zzg 59 127 [.int .i64 1, .int .i64 2] ?_)
       intro w71 u71 e71 d71
       have k76 := k_ratFrac d71 (a := 1) (b := 2) xq xq xq xq
       with_reducible refine zPm k76 ?_
       rintro _ u74 g75 ⟨r72, rfl, h73⟩
       refine zza 60 (zI k) (zzg 61 177 [r72.v, .int .i64 k] ?_)
       intro w77 u77 e77 d77
       have k84 := k_exactly (k := k) d77 (h73.ext e77) xq xq
       with_reducible refine zPm k84 ?_
       rintro _ u82 g83 ⟨r78, r80, rfl, h79, h81⟩
       refine zzi ⟨32, r78.cs ++ r80.cs⟩ ty32 ?_
       refine zzb (zzn (zyt (zzv (ret0 [.agg #[.bool r78.s, .slice r78.m.a r78.m.n r78.m.c, .slice r78.d.a r78.d.n r78.d.c, .bool r80.s, .slice r80.m.a r80.m.n r80.m.c, .slice r80.d.a r80.d.n r80.d.c]] ⟨zzq ty32 zze, trivial⟩ fun u85 e86 => ?_))))
       have hc := (Nt.cosV_lo (b := k) hr (by have h9 := of_decide_eq_false hb13; omega)).trans (Nt.cosA_3 (r := r) (q := q) (b := k) (by have h9 := hb36; simp at h9; omega) (by have h9 := hb53; simp at h9; omega) (by have h9 := hb70; simp at h9; omega))
       refine ⟨r78, r80, rfl, RatN.more (K := 80) ?_ xq, RatN.more (K := 80) ?_ xq⟩
       ·rw [hc]; exact (h79.ext e86)
       ·rw [hc]; exact (h81.ext e86)
      ·replace hb70 : (((3 * r : Nat) : Int) == (q : Int)) = false := hb70
       have q9hb70 : ¬ 3 * r = q := by have h9 := hb70; simp at h9; omega
       refine zzr (zzo ?_)
       refine zzd (sw_pubA (r := 3) (t := 3) [3] xk xj (by rfl) (by rfl) xj (fun b87 u88 e89 hb90 hv91 hh92 => ?_))
       refine sw_pubA (r := 4) (t := 4) [4] xk xj (by rfl) (by rfl) xj (fun b93 u94 e95 hb96 hv97 hh98 => ?_)
       refine zzf (sy_fun 62 [.pointer (some ⟨b87, 0, none⟩), .pointer (some ⟨b93, 0, none⟩)] ?_)
       refine zza 63 (zI k) (zzg 64 101 [.func (.func 178) #[] #[.pointer (some ⟨b87, 0, none⟩), .pointer (some ⟨b93, 0, none⟩)], .int .i64 k] ?_)
       intro w99 u99 e99 d99
       have k106 := k_irrCos (k := k) d99 ((e95.trans e99).cells hh92) (e99.cells hh98) hq0 xq xq xq (hG r xq xq xq) hg3 xq
       with_reducible refine zPm k106 ?_
       rintro _ u104 g105 ⟨r100, r102, rfl, h101, h103⟩
       refine zzi ⟨32, r100.cs ++ r102.cs⟩ ty32 ?_
       refine zzb (zzn (ret0 [.agg #[.bool r100.s, .slice r100.m.a r100.m.n r100.m.c, .slice r100.d.a r100.d.n r100.d.c, .bool r102.s, .slice r102.m.a r102.m.n r102.m.c, .slice r102.d.a r102.d.n r102.d.c]] ⟨zzq ty32 zze, trivial⟩ fun u107 e108 => ?_))
       have hc := (Nt.cosV_lo (b := k) hr (by have h9 := of_decide_eq_false hb13; omega)).trans (Nt.cosA_g (r := r) (q := q) (b := k) (by have h9 := hb36; simp at h9; omega) (by have h9 := hb53; simp at h9; omega) (by have h9 := hb70; simp at h9; omega))
       refine ⟨r100, r102, rfl, RatN.more (K := 70) ?_ xq, RatN.more (K := 70) ?_ xq⟩
       ·rw [hc]; exact (h101.ext e108)
       ·rw [hc]; exact (h103.ext e108)
  ·replace hb12 : (decide ((q : Int) < (-(Int.tmod p (2 * (q : Int)))))) = false := hb12
   have qhb12 := of_decide_eq_false hb12
   refine zzr (zzo ?_)
   refine zzd (zzd ?_)
   have hfold : (-(Int.tmod p (2 * (q : Int)))) = ((Nt.fold p q : Nat) : Int) := by unfold Nt.fold; dsimp only; split <;> omega
   rw [hfold]
   have hfl := Nt.fold_le p q hq0
   obtain ⟨r, hr⟩ : ∃ r, Nt.fold p q = r := ⟨_, rfl⟩
   rw [hr] at hfl ⊢
   clear hfold
   refine zzf (zzh 23 (zI r) ty3 zzk (zyp 24 (x := zI (IntKind.i64.wrap ((2 : Int) * (r : Int)))) (zI (2 * r : Nat)) (eqI xz) (zzh 25 (zI q) ty3 zzk (zza 26 (zB (decide ((q : Int) < ((2 * r : Nat) : Int)))) (zzb (zzt (b := decide ((q : Int) < ((2 * r : Nat) : Int))) xj (fun hb109 => ?_) (fun hb109 => ?_)))))))
   ·replace hb109 : (decide ((q : Int) < ((2 * r : Nat) : Int))) = true := hb109
    have qhb109 := of_decide_eq_true hb109
    have hb9 := hb109
    refine sq9 (zzh 27 (zI q) ty3 zzk (zzh 28 (zI r) ty3 zzk (zyp 29 (x := zI (IntKind.i64.wrap ((q : Int) - (r : Int)))) (zI (q - r : Nat)) (eqI xz) (zzh 30 (zI q) ty3 zzk (zza 31 (zI k) (zzg 32 100 [.int .i64 (q - r : Nat), .int .i64 q, .int .i64 k] ?_))))))
    intro w110 u110 e110 d110
    have k117 := (show Calls _ _ #[.int .i64 ((q - r : Nat) : Int), .int .i64 (q : Int), .int .i64 (k : Int)] _ _ from (by have h9 := k_cosA (p := ((q - r : Nat) : Int)) (q := q) (k := k) d110 hq0 hq2 hG0 xq xq hk (by rw [Nt.fold_id xq]; have h8 := of_decide_eq_true hb9; omega); rw [Nt.fold_id xq] at h9; exact h9))
    with_reducible refine zPm k117 ?_
    rintro _ u115 g116 ⟨r111, r113, rfl, h112, h114⟩
    refine zzj 7 ⟨32, [.bool false, .slice none 0 0, .slice none 0 0, .bool false, .slice none 0 0, .slice none 0 0]⟩ (zzi ⟨32, r111.cs ++ r113.cs⟩ ty32 ?_)
    refine zzb (zzd (zzy [0, 1, 3, 0, 8, 31, 63, 127] [(0, []), (1, []), (3, []), (4, []), (2, []), (5, []), (6, []), (7, [])] xj xj (zza 33 (.adr 7 3) (zzh 34 (.v (r113.v)) ty26 zze (zza 36 (.adr 7 0) (zzh 37 (.v (r111.v)) ty26 zze (zzg 35 176 [r113.v] ?_)))))))
    intro w118 u118 e118 d118
    have k123 := k_ratNeg d118 (h114.ext e118).raw xq
    with_reducible refine zPm k123 ?_
    rintro _ u121 g122 ⟨r119, rfl, h120⟩
    refine zzg 38 176 [r111.v] ?_
    intro w124 u124 e124 d124
    have k129 := k_ratNeg d124 (h112.ext (e118.trans (g122.ext.trans e124))).raw xq
    with_reducible refine zPm k129 ?_
    rintro _ u127 g128 ⟨r125, rfl, h126⟩
    refine zza 39 (.v (.agg #[.bool r119.s, r119.m.v, r119.d.v, .bool r125.s, r125.m.v, r125.d.v])) (zzi ⟨32, r119.cs ++ r125.cs⟩ ty32 ?_)
    refine zzc 65 [(6, .adr 6 0)] [(6, ⟨32, r119.cs ++ r125.cs⟩)] (zzn (zzv (ret0 [.agg #[.bool r119.s, .slice r119.m.a r119.m.n r119.m.c, .slice r119.d.a r119.d.n r119.d.c, .bool r125.s, .slice r125.m.a r125.m.n r125.m.c, .slice r125.d.a r125.d.n r125.d.c]] ⟨zzq ty32 zze, trivial⟩ fun u130 e131 => ?_)))
    have hc := Nt.cosV_hi (b := k) hr (by have h9 := of_decide_eq_true hb109; omega)
    refine ⟨r119, r125, rfl, RatN.more (K := 80) ?_ xq, RatN.more (K := 80) ?_ xq⟩
    ·rw [hc]; exact (h120.ext (e124.trans (g128.ext.trans e131)))
    ·rw [hc]; exact (h126.ext e131)
   ·replace hb109 : (decide ((q : Int) < ((2 * r : Nat) : Int))) = false := hb109
    have qhb109 := of_decide_eq_false hb109
    refine zzr (zzo ?_)
    refine zzd (zzs (sq9 (zzh 41 (zI r) ty3 zzk (zza 42 (zB ((r : Int) == 0)) (zza 40 (zB ((r : Int) == 0)) (zzb (zzt (b := (r : Int) == 0) xj (fun hb132 => ?_) (fun hb132 => ?_))))))))
    ·replace hb132 : ((r : Int) == 0) = true := hb132
     have qhb132 : (r : Int) = 0 := by simpa using hb132
     refine sq9 (zzg 43 118 [.int .i64 1] ?_)
     intro w133 u133 e133 d133
     have k138 := k_ratOf d133 (z := 1) xq xq
     with_reducible refine zPm k138 ?_
     rintro _ u136 g137 ⟨r134, rfl, h135⟩
     refine zza 44 (zI k) (zzg 45 177 [r134.v, .int .i64 k] ?_)
     intro w139 u139 e139 d139
     have k146 := k_exactly (k := k) d139 (h135.ext e139) xq xq
     with_reducible refine zPm k146 ?_
     rintro _ u144 g145 ⟨r140, r142, rfl, h141, h143⟩
     refine zzi ⟨32, r140.cs ++ r142.cs⟩ ty32 ?_
     refine zzb (zzn (zyt (zzv (ret0 [.agg #[.bool r140.s, .slice r140.m.a r140.m.n r140.m.c, .slice r140.d.a r140.d.n r140.d.c, .bool r142.s, .slice r142.m.a r142.m.n r142.m.c, .slice r142.d.a r142.d.n r142.d.c]] ⟨zzq ty32 zze, trivial⟩ fun u147 e148 => ?_))))
     have hc := (Nt.cosV_lo (b := k) hr (by have h9 := of_decide_eq_false hb109; omega)).trans (Nt.cosA_0 (r := r) (q := q) (b := k) (by have h9 := hb132; simp at h9; omega))
     refine ⟨r140, r142, rfl, RatN.more (K := 80) ?_ xq, RatN.more (K := 80) ?_ xq⟩
     ·rw [hc]; exact (h141.ext e148)
     ·rw [hc]; exact (h143.ext e148)
    ·replace hb132 : ((r : Int) == 0) = false := hb132
     have qhb132 : ¬ ((r : Int) = 0) := by simpa using hb132
     refine sq9 (zzh 47 (zI r) ty3 zzk (zyp 48 (x := zI (IntKind.i64.wrap ((2 : Int) * (r : Int)))) (zI (2 * r : Nat)) (eqI xz) (zzh 49 (zI q) ty3 zzk (zza 50 (zB (((2 * r : Nat) : Int) == (q : Int))) (zza 46 (zB (((2 * r : Nat) : Int) == (q : Int))) (zzb (zzt (b := ((2 * r : Nat) : Int) == (q : Int)) xj (fun hb149 => ?_) (fun hb149 => ?_))))))))
     ·replace hb149 : (((2 * r : Nat) : Int) == (q : Int)) = true := hb149
      refine sq9 (zzg 51 118 [.int .i64 0] ?_)
      intro w150 u150 e150 d150
      have k155 := k_ratOf d150 (z := 0) xq xq
      with_reducible refine zPm k155 ?_
      rintro _ u153 g154 ⟨r151, rfl, h152⟩
      refine zza 52 (zI k) (zzg 53 177 [r151.v, .int .i64 k] ?_)
      intro w156 u156 e156 d156
      have k163 := k_exactly (k := k) d156 (h152.ext e156) xq xq
      with_reducible refine zPm k163 ?_
      rintro _ u161 g162 ⟨r157, r159, rfl, h158, h160⟩
      refine zzi ⟨32, r157.cs ++ r159.cs⟩ ty32 ?_
      refine zzc 65 [(6, .adr 6 0)] [(6, ⟨32, r157.cs ++ r159.cs⟩)] (zzn (zyt (zzv (ret0 [.agg #[.bool r157.s, .slice r157.m.a r157.m.n r157.m.c, .slice r157.d.a r157.d.n r157.d.c, .bool r159.s, .slice r159.m.a r159.m.n r159.m.c, .slice r159.d.a r159.d.n r159.d.c]] ⟨zzq ty32 zze, trivial⟩ fun u164 e165 => ?_))))
      have hc := (Nt.cosV_lo (b := k) hr (by have h9 := of_decide_eq_false hb109; omega)).trans (Nt.cosA_h (r := r) (q := q) (b := k) (by have h9 := hb132; simp at h9; omega) (by have h9 := hb149; simp at h9; omega))
      refine ⟨r157, r159, rfl, RatN.more (K := 80) ?_ xq, RatN.more (K := 80) ?_ xq⟩
      ·rw [hc]; exact (h158.ext e165)
      ·rw [hc]; exact (h160.ext e165)
     ·replace hb149 : (((2 * r : Nat) : Int) == (q : Int)) = false := hb149
      have q9hb149 : ¬ 2 * r = q := by have h9 := hb149; simp at h9; omega
      refine sq9 (zzh 55 (zI r) ty3 zzk (zyp 56 (x := zI (IntKind.i64.wrap ((3 : Int) * (r : Int)))) (zI (3 * r : Nat)) (eqI xz) (zzh 57 (zI q) ty3 zzk (zza 58 (zB (((3 * r : Nat) : Int) == (q : Int))) (zza 54 (zB (((3 * r : Nat) : Int) == (q : Int))) (zzc 65 [(2, zI k), (3, .adr 3 0), (4, .adr 4 0), (6, .adr 6 0), (54, zB (((3 * r : Nat) : Int) == (q : Int)))] [(3, ⟨3, [.int .i64 r]⟩), (4, ⟨3, [.int .i64 q]⟩), (6, ⟨32, [.bool false, .slice none 0 0, .slice none 0 0, .bool false, .slice none 0 0, .slice none 0 0]⟩)] (zzt (b := ((3 * r : Nat) : Int) == (q : Int)) xj (fun hb166 => ?_) (fun hb166 => ?_))))))))
      ·replace hb166 : (((3 * r : Nat) : Int) == (q : Int)) = true := hb166
       refine sq9 (zzg 59 127 [.int .i64 1, .int .i64 2] ?_)
       intro w167 u167 e167 d167
       have k172 := k_ratFrac d167 (a := 1) (b := 2) xq xq xq xq
       with_reducible refine zPm k172 ?_
       rintro _ u170 g171 ⟨r168, rfl, h169⟩
       refine zza 60 (zI k) (zzg 61 177 [r168.v, .int .i64 k] ?_)
       intro w173 u173 e173 d173
       have k180 := k_exactly (k := k) d173 (h169.ext e173) xq xq
       with_reducible refine zPm k180 ?_
       rintro _ u178 g179 ⟨r174, r176, rfl, h175, h177⟩
       refine zzi ⟨32, r174.cs ++ r176.cs⟩ ty32 ?_
       refine zzb (zzn (zyt (zzv (ret0 [.agg #[.bool r174.s, .slice r174.m.a r174.m.n r174.m.c, .slice r174.d.a r174.d.n r174.d.c, .bool r176.s, .slice r176.m.a r176.m.n r176.m.c, .slice r176.d.a r176.d.n r176.d.c]] ⟨zzq ty32 zze, trivial⟩ fun u181 e182 => ?_))))
       have hc := (Nt.cosV_lo (b := k) hr (by have h9 := of_decide_eq_false hb109; omega)).trans (Nt.cosA_3 (r := r) (q := q) (b := k) (by have h9 := hb132; simp at h9; omega) (by have h9 := hb149; simp at h9; omega) (by have h9 := hb166; simp at h9; omega))
       refine ⟨r174, r176, rfl, RatN.more (K := 80) ?_ xq, RatN.more (K := 80) ?_ xq⟩
       ·rw [hc]; exact (h175.ext e182)
       ·rw [hc]; exact (h177.ext e182)
      ·replace hb166 : (((3 * r : Nat) : Int) == (q : Int)) = false := hb166
       have q9hb166 : ¬ 3 * r = q := by have h9 := hb166; simp at h9; omega
       refine zzr (zzo ?_)
       refine zzd (sw_pubA (r := 3) (t := 3) [3] xk xj (by rfl) (by rfl) xj (fun b183 u184 e185 hb186 hv187 hh188 => ?_))
       refine sw_pubA (r := 4) (t := 4) [4] xk xj (by rfl) (by rfl) xj (fun b189 u190 e191 hb192 hv193 hh194 => ?_)
       refine zzf (sy_fun 62 [.pointer (some ⟨b183, 0, none⟩), .pointer (some ⟨b189, 0, none⟩)] ?_)
       refine zza 63 (zI k) (zzg 64 101 [.func (.func 178) #[] #[.pointer (some ⟨b183, 0, none⟩), .pointer (some ⟨b189, 0, none⟩)], .int .i64 k] ?_)
       intro w195 u195 e195 d195
       have k202 := k_irrCos (k := k) d195 ((e191.trans e195).cells hh188) (e195.cells hh194) hq0 xq xq xq (hG r xq xq xq) hg3 xq
       with_reducible refine zPm k202 ?_
       rintro _ u200 g201 ⟨r196, r198, rfl, h197, h199⟩
       refine zzi ⟨32, r196.cs ++ r198.cs⟩ ty32 ?_
       refine zzb (zzn (ret0 [.agg #[.bool r196.s, .slice r196.m.a r196.m.n r196.m.c, .slice r196.d.a r196.d.n r196.d.c, .bool r198.s, .slice r198.m.a r198.m.n r198.m.c, .slice r198.d.a r198.d.n r198.d.c]] ⟨zzq ty32 zze, trivial⟩ fun u203 e204 => ?_))
       have hc := (Nt.cosV_lo (b := k) hr (by have h9 := of_decide_eq_false hb109; omega)).trans (Nt.cosA_g (r := r) (q := q) (b := k) (by have h9 := hb132; simp at h9; omega) (by have h9 := hb149; simp at h9; omega) (by have h9 := hb166; simp at h9; omega))
       refine ⟨r196, r198, rfl, RatN.more (K := 70) ?_ xq, RatN.more (K := 70) ?_ xq⟩
       ·rw [hc]; exact (h197.ext e204)
       ·rw [hc]; exact (h199.ext e204)
 ·replace hb11 : (decide ((Int.tmod p (2 * (q : Int))) < 0)) = false := hb11
  have qhb11 := of_decide_eq_false hb11
  refine zzr (zzo ?_)
  refine zzd (sq9 (zzh 16 (zI (Int.tmod p (2 * (q : Int)))) ty3 zzk (zzh 17 (zI q) ty3 zzk (zza 18 (zB (decide ((q : Int) < (Int.tmod p (2 * (q : Int)))))) (zzb (zzt (b := decide ((q : Int) < (Int.tmod p (2 * (q : Int))))) xj (fun hb205 => ?_) (fun hb205 => ?_)))))))
  ·replace hb205 : (decide ((q : Int) < (Int.tmod p (2 * (q : Int))))) = true := hb205
   have qhb205 := of_decide_eq_true hb205
   refine zzf (zzh 19 (zI q) ty3 zzk (zyp 20 (x := zI (IntKind.i64.wrap ((2 : Int) * (q : Int)))) (zI (2 * q : Nat)) (eqI xz) (zzh 21 (zI (Int.tmod p (2 * (q : Int)))) ty3 zzk (zyp 22 (x := zI (IntKind.i64.wrap (((2 * q : Nat) : Int) - (Int.tmod p (2 * (q : Int)))))) (zI (((2 * q : Nat) : Int) - (Int.tmod p (2 * (q : Int))))) yq (zzi ⟨3, [.int .i64 (((2 * q : Nat) : Int) - (Int.tmod p (2 * (q : Int))))]⟩ ty3 ?_)))))
   refine zzb (zzd (zzd ?_))
   have hfold : (((2 * q : Nat) : Int) - (Int.tmod p (2 * (q : Int)))) = ((Nt.fold p q : Nat) : Int) := by unfold Nt.fold; dsimp only; split <;> omega
   rw [hfold]
   have hfl := Nt.fold_le p q hq0
   obtain ⟨r, hr⟩ : ∃ r, Nt.fold p q = r := ⟨_, rfl⟩
   rw [hr] at hfl ⊢
   clear hfold
   refine zzf (zzh 23 (zI r) ty3 zzk (zyp 24 (x := zI (IntKind.i64.wrap ((2 : Int) * (r : Int)))) (zI (2 * r : Nat)) (eqI xz) (zzh 25 (zI q) ty3 zzk (zza 26 (zB (decide ((q : Int) < ((2 * r : Nat) : Int)))) (zzb (zzt (b := decide ((q : Int) < ((2 * r : Nat) : Int))) xj (fun hb206 => ?_) (fun hb206 => ?_)))))))
   ·replace hb206 : (decide ((q : Int) < ((2 * r : Nat) : Int))) = true := hb206
    have qhb206 := of_decide_eq_true hb206
    have hb9 := hb206
    refine sq9 (zzh 27 (zI q) ty3 zzk (zzh 28 (zI r) ty3 zzk (zyp 29 (x := zI (IntKind.i64.wrap ((q : Int) - (r : Int)))) (zI (q - r : Nat)) (eqI xz) (zzh 30 (zI q) ty3 zzk (zza 31 (zI k) (zzg 32 100 [.int .i64 (q - r : Nat), .int .i64 q, .int .i64 k] ?_))))))
    intro w207 u207 e207 d207
    have k214 := (show Calls _ _ #[.int .i64 ((q - r : Nat) : Int), .int .i64 (q : Int), .int .i64 (k : Int)] _ _ from (by have h9 := k_cosA (p := ((q - r : Nat) : Int)) (q := q) (k := k) d207 hq0 hq2 hG0 xq xq hk (by rw [Nt.fold_id xq]; have h8 := of_decide_eq_true hb9; omega); rw [Nt.fold_id xq] at h9; exact h9))
    with_reducible refine zPm k214 ?_
    rintro _ u212 g213 ⟨r208, r210, rfl, h209, h211⟩
    refine zzj 7 ⟨32, [.bool false, .slice none 0 0, .slice none 0 0, .bool false, .slice none 0 0, .slice none 0 0]⟩ (zzi ⟨32, r208.cs ++ r210.cs⟩ ty32 ?_)
    refine zzb (zzd (zzy [0, 1, 3, 0, 8, 31, 63, 127] [(0, []), (1, []), (3, []), (4, []), (2, []), (5, []), (6, []), (7, [])] xj xj (zza 33 (.adr 7 3) (zzh 34 (.v (r210.v)) ty26 zze (zza 36 (.adr 7 0) (zzh 37 (.v (r208.v)) ty26 zze (zzg 35 176 [r210.v] ?_)))))))
    intro w215 u215 e215 d215
    have k220 := k_ratNeg d215 (h211.ext e215).raw xq
    with_reducible refine zPm k220 ?_
    rintro _ u218 g219 ⟨r216, rfl, h217⟩
    refine zzg 38 176 [r208.v] ?_
    intro w221 u221 e221 d221
    have k226 := k_ratNeg d221 (h209.ext (e215.trans (g219.ext.trans e221))).raw xq
    with_reducible refine zPm k226 ?_
    rintro _ u224 g225 ⟨r222, rfl, h223⟩
    refine zza 39 (.v (.agg #[.bool r216.s, r216.m.v, r216.d.v, .bool r222.s, r222.m.v, r222.d.v])) (zzi ⟨32, r216.cs ++ r222.cs⟩ ty32 ?_)
    refine zzc 65 [(6, .adr 6 0)] [(6, ⟨32, r216.cs ++ r222.cs⟩)] (zzn (zzv (ret0 [.agg #[.bool r216.s, .slice r216.m.a r216.m.n r216.m.c, .slice r216.d.a r216.d.n r216.d.c, .bool r222.s, .slice r222.m.a r222.m.n r222.m.c, .slice r222.d.a r222.d.n r222.d.c]] ⟨zzq ty32 zze, trivial⟩ fun u227 e228 => ?_)))
    have hc := Nt.cosV_hi (b := k) hr (by have h9 := of_decide_eq_true hb206; omega)
    refine ⟨r216, r222, rfl, RatN.more (K := 80) ?_ xq, RatN.more (K := 80) ?_ xq⟩
    ·rw [hc]; exact (h217.ext (e221.trans (g225.ext.trans e228)))
    ·rw [hc]; exact (h223.ext e228)
   ·replace hb206 : (decide ((q : Int) < ((2 * r : Nat) : Int))) = false := hb206
    have qhb206 := of_decide_eq_false hb206
    refine zzr (zzo ?_)
    refine zzd (zzs (sq9 (zzh 41 (zI r) ty3 zzk (zza 42 (zB ((r : Int) == 0)) (zza 40 (zB ((r : Int) == 0)) (zzb (zzt (b := (r : Int) == 0) xj (fun hb229 => ?_) (fun hb229 => ?_))))))))
    ·replace hb229 : ((r : Int) == 0) = true := hb229
     have qhb229 : (r : Int) = 0 := by simpa using hb229
     refine sq9 (zzg 43 118 [.int .i64 1] ?_)
     intro w230 u230 e230 d230
     have k235 := k_ratOf d230 (z := 1) xq xq
     with_reducible refine zPm k235 ?_
     rintro _ u233 g234 ⟨r231, rfl, h232⟩
     refine zza 44 (zI k) (zzg 45 177 [r231.v, .int .i64 k] ?_)
     intro w236 u236 e236 d236
     have k243 := k_exactly (k := k) d236 (h232.ext e236) xq xq
     with_reducible refine zPm k243 ?_
     rintro _ u241 g242 ⟨r237, r239, rfl, h238, h240⟩
     refine zzi ⟨32, r237.cs ++ r239.cs⟩ ty32 ?_
     refine zzb (zzn (zyt (zzv (ret0 [.agg #[.bool r237.s, .slice r237.m.a r237.m.n r237.m.c, .slice r237.d.a r237.d.n r237.d.c, .bool r239.s, .slice r239.m.a r239.m.n r239.m.c, .slice r239.d.a r239.d.n r239.d.c]] ⟨zzq ty32 zze, trivial⟩ fun u244 e245 => ?_))))
     have hc := (Nt.cosV_lo (b := k) hr (by have h9 := of_decide_eq_false hb206; omega)).trans (Nt.cosA_0 (r := r) (q := q) (b := k) (by have h9 := hb229; simp at h9; omega))
     refine ⟨r237, r239, rfl, RatN.more (K := 80) ?_ xq, RatN.more (K := 80) ?_ xq⟩
     ·rw [hc]; exact (h238.ext e245)
     ·rw [hc]; exact (h240.ext e245)
    ·replace hb229 : ((r : Int) == 0) = false := hb229
     have qhb229 : ¬ ((r : Int) = 0) := by simpa using hb229
     refine sq9 (zzh 47 (zI r) ty3 zzk (zyp 48 (x := zI (IntKind.i64.wrap ((2 : Int) * (r : Int)))) (zI (2 * r : Nat)) (eqI xz) (zzh 49 (zI q) ty3 zzk (zza 50 (zB (((2 * r : Nat) : Int) == (q : Int))) (zza 46 (zB (((2 * r : Nat) : Int) == (q : Int))) (zzb (zzt (b := ((2 * r : Nat) : Int) == (q : Int)) xj (fun hb246 => ?_) (fun hb246 => ?_))))))))
     ·replace hb246 : (((2 * r : Nat) : Int) == (q : Int)) = true := hb246
      refine sq9 (zzg 51 118 [.int .i64 0] ?_)
      intro w247 u247 e247 d247
      have k252 := k_ratOf d247 (z := 0) xq xq
      with_reducible refine zPm k252 ?_
      rintro _ u250 g251 ⟨r248, rfl, h249⟩
      refine zza 52 (zI k) (zzg 53 177 [r248.v, .int .i64 k] ?_)
      intro w253 u253 e253 d253
      have k260 := k_exactly (k := k) d253 (h249.ext e253) xq xq
      with_reducible refine zPm k260 ?_
      rintro _ u258 g259 ⟨r254, r256, rfl, h255, h257⟩
      refine zzi ⟨32, r254.cs ++ r256.cs⟩ ty32 ?_
      refine zzc 65 [(6, .adr 6 0)] [(6, ⟨32, r254.cs ++ r256.cs⟩)] (zzn (zyt (zzv (ret0 [.agg #[.bool r254.s, .slice r254.m.a r254.m.n r254.m.c, .slice r254.d.a r254.d.n r254.d.c, .bool r256.s, .slice r256.m.a r256.m.n r256.m.c, .slice r256.d.a r256.d.n r256.d.c]] ⟨zzq ty32 zze, trivial⟩ fun u261 e262 => ?_))))
      have hc := (Nt.cosV_lo (b := k) hr (by have h9 := of_decide_eq_false hb206; omega)).trans (Nt.cosA_h (r := r) (q := q) (b := k) (by have h9 := hb229; simp at h9; omega) (by have h9 := hb246; simp at h9; omega))
      refine ⟨r254, r256, rfl, RatN.more (K := 80) ?_ xq, RatN.more (K := 80) ?_ xq⟩
      ·rw [hc]; exact (h255.ext e262)
      ·rw [hc]; exact (h257.ext e262)
     ·replace hb246 : (((2 * r : Nat) : Int) == (q : Int)) = false := hb246
      have q9hb246 : ¬ 2 * r = q := by have h9 := hb246; simp at h9; omega
      refine sq9 (zzh 55 (zI r) ty3 zzk (zyp 56 (x := zI (IntKind.i64.wrap ((3 : Int) * (r : Int)))) (zI (3 * r : Nat)) (eqI xz) (zzh 57 (zI q) ty3 zzk (zza 58 (zB (((3 * r : Nat) : Int) == (q : Int))) (zza 54 (zB (((3 * r : Nat) : Int) == (q : Int))) (zzc 65 [(2, zI k), (3, .adr 3 0), (4, .adr 4 0), (6, .adr 6 0), (54, zB (((3 * r : Nat) : Int) == (q : Int)))] [(3, ⟨3, [.int .i64 r]⟩), (4, ⟨3, [.int .i64 q]⟩), (6, ⟨32, [.bool false, .slice none 0 0, .slice none 0 0, .bool false, .slice none 0 0, .slice none 0 0]⟩)] (zzt (b := ((3 * r : Nat) : Int) == (q : Int)) xj (fun hb263 => ?_) (fun hb263 => ?_))))))))
      ·replace hb263 : (((3 * r : Nat) : Int) == (q : Int)) = true := hb263
       refine sq9 (zzg 59 127 [.int .i64 1, .int .i64 2] ?_)
       intro w264 u264 e264 d264
       have k269 := k_ratFrac d264 (a := 1) (b := 2) xq xq xq xq
       with_reducible refine zPm k269 ?_
       rintro _ u267 g268 ⟨r265, rfl, h266⟩
       refine zza 60 (zI k) (zzg 61 177 [r265.v, .int .i64 k] ?_)
       intro w270 u270 e270 d270
       have k277 := k_exactly (k := k) d270 (h266.ext e270) xq xq
       with_reducible refine zPm k277 ?_
       rintro _ u275 g276 ⟨r271, r273, rfl, h272, h274⟩
       refine zzi ⟨32, r271.cs ++ r273.cs⟩ ty32 ?_
       refine zzb (zzn (zyt (zzv (ret0 [.agg #[.bool r271.s, .slice r271.m.a r271.m.n r271.m.c, .slice r271.d.a r271.d.n r271.d.c, .bool r273.s, .slice r273.m.a r273.m.n r273.m.c, .slice r273.d.a r273.d.n r273.d.c]] ⟨zzq ty32 zze, trivial⟩ fun u278 e279 => ?_))))
       have hc := (Nt.cosV_lo (b := k) hr (by have h9 := of_decide_eq_false hb206; omega)).trans (Nt.cosA_3 (r := r) (q := q) (b := k) (by have h9 := hb229; simp at h9; omega) (by have h9 := hb246; simp at h9; omega) (by have h9 := hb263; simp at h9; omega))
       refine ⟨r271, r273, rfl, RatN.more (K := 80) ?_ xq, RatN.more (K := 80) ?_ xq⟩
       ·rw [hc]; exact (h272.ext e279)
       ·rw [hc]; exact (h274.ext e279)
      ·replace hb263 : (((3 * r : Nat) : Int) == (q : Int)) = false := hb263
       have q9hb263 : ¬ 3 * r = q := by have h9 := hb263; simp at h9; omega
       refine zzr (zzo ?_)
       refine zzd (sw_pubA (r := 3) (t := 3) [3] xk xj (by rfl) (by rfl) xj (fun b280 u281 e282 hb283 hv284 hh285 => ?_))
       refine sw_pubA (r := 4) (t := 4) [4] xk xj (by rfl) (by rfl) xj (fun b286 u287 e288 hb289 hv290 hh291 => ?_)
       refine zzf (sy_fun 62 [.pointer (some ⟨b280, 0, none⟩), .pointer (some ⟨b286, 0, none⟩)] ?_)
       refine zza 63 (zI k) (zzg 64 101 [.func (.func 178) #[] #[.pointer (some ⟨b280, 0, none⟩), .pointer (some ⟨b286, 0, none⟩)], .int .i64 k] ?_)
       intro w292 u292 e292 d292
       have k299 := k_irrCos (k := k) d292 ((e288.trans e292).cells hh285) (e292.cells hh291) hq0 xq xq xq (hG r xq xq xq) hg3 xq
       with_reducible refine zPm k299 ?_
       rintro _ u297 g298 ⟨r293, r295, rfl, h294, h296⟩
       refine zzi ⟨32, r293.cs ++ r295.cs⟩ ty32 ?_
       refine zzb (zzn (ret0 [.agg #[.bool r293.s, .slice r293.m.a r293.m.n r293.m.c, .slice r293.d.a r293.d.n r293.d.c, .bool r295.s, .slice r295.m.a r295.m.n r295.m.c, .slice r295.d.a r295.d.n r295.d.c]] ⟨zzq ty32 zze, trivial⟩ fun u300 e301 => ?_))
       have hc := (Nt.cosV_lo (b := k) hr (by have h9 := of_decide_eq_false hb206; omega)).trans (Nt.cosA_g (r := r) (q := q) (b := k) (by have h9 := hb229; simp at h9; omega) (by have h9 := hb246; simp at h9; omega) (by have h9 := hb263; simp at h9; omega))
       refine ⟨r293, r295, rfl, RatN.more (K := 70) ?_ xq, RatN.more (K := 70) ?_ xq⟩
       ·rw [hc]; exact (h294.ext e301)
       ·rw [hc]; exact (h296.ext e301)
  ·replace hb205 : (decide ((q : Int) < (Int.tmod p (2 * (q : Int))))) = false := hb205
   have qhb205 := of_decide_eq_false hb205
   refine zzr (zzo ?_)
   refine zzd (zzd ?_)
   have hfold : (Int.tmod p (2 * (q : Int))) = ((Nt.fold p q : Nat) : Int) := by unfold Nt.fold; dsimp only; split <;> omega
   rw [hfold]
   have hfl := Nt.fold_le p q hq0
   obtain ⟨r, hr⟩ : ∃ r, Nt.fold p q = r := ⟨_, rfl⟩
   rw [hr] at hfl ⊢
   clear hfold
   refine zzf (zzh 23 (zI r) ty3 zzk (zyp 24 (x := zI (IntKind.i64.wrap ((2 : Int) * (r : Int)))) (zI (2 * r : Nat)) (eqI xz) (zzh 25 (zI q) ty3 zzk (zza 26 (zB (decide ((q : Int) < ((2 * r : Nat) : Int)))) (zzb (zzt (b := decide ((q : Int) < ((2 * r : Nat) : Int))) xj (fun hb302 => ?_) (fun hb302 => ?_)))))))
   ·replace hb302 : (decide ((q : Int) < ((2 * r : Nat) : Int))) = true := hb302
    have qhb302 := of_decide_eq_true hb302
    have hb9 := hb302
    refine sq9 (zzh 27 (zI q) ty3 zzk (zzh 28 (zI r) ty3 zzk (zyp 29 (x := zI (IntKind.i64.wrap ((q : Int) - (r : Int)))) (zI (q - r : Nat)) (eqI xz) (zzh 30 (zI q) ty3 zzk (zza 31 (zI k) (zzg 32 100 [.int .i64 (q - r : Nat), .int .i64 q, .int .i64 k] ?_))))))
    intro w303 u303 e303 d303
    have k310 := (show Calls _ _ #[.int .i64 ((q - r : Nat) : Int), .int .i64 (q : Int), .int .i64 (k : Int)] _ _ from (by have h9 := k_cosA (p := ((q - r : Nat) : Int)) (q := q) (k := k) d303 hq0 hq2 hG0 xq xq hk (by rw [Nt.fold_id xq]; have h8 := of_decide_eq_true hb9; omega); rw [Nt.fold_id xq] at h9; exact h9))
    with_reducible refine zPm k310 ?_
    rintro _ u308 g309 ⟨r304, r306, rfl, h305, h307⟩
    refine zzj 7 ⟨32, [.bool false, .slice none 0 0, .slice none 0 0, .bool false, .slice none 0 0, .slice none 0 0]⟩ (zzi ⟨32, r304.cs ++ r306.cs⟩ ty32 ?_)
    refine zzb (zzd (zzy [0, 1, 3, 0, 8, 31, 63, 127] [(0, []), (1, []), (3, []), (4, []), (2, []), (5, []), (6, []), (7, [])] xj xj (zza 33 (.adr 7 3) (zzh 34 (.v (r306.v)) ty26 zze (zza 36 (.adr 7 0) (zzh 37 (.v (r304.v)) ty26 zze (zzg 35 176 [r306.v] ?_)))))))
    intro w311 u311 e311 d311
    have k316 := k_ratNeg d311 (h307.ext e311).raw xq
    with_reducible refine zPm k316 ?_
    rintro _ u314 g315 ⟨r312, rfl, h313⟩
    refine zzg 38 176 [r304.v] ?_
    intro w317 u317 e317 d317
    have k322 := k_ratNeg d317 (h305.ext (e311.trans (g315.ext.trans e317))).raw xq
    with_reducible refine zPm k322 ?_
    rintro _ u320 g321 ⟨r318, rfl, h319⟩
    refine zza 39 (.v (.agg #[.bool r312.s, r312.m.v, r312.d.v, .bool r318.s, r318.m.v, r318.d.v])) (zzi ⟨32, r312.cs ++ r318.cs⟩ ty32 ?_)
    refine zzc 65 [(6, .adr 6 0)] [(6, ⟨32, r312.cs ++ r318.cs⟩)] (zzn (zzv (ret0 [.agg #[.bool r312.s, .slice r312.m.a r312.m.n r312.m.c, .slice r312.d.a r312.d.n r312.d.c, .bool r318.s, .slice r318.m.a r318.m.n r318.m.c, .slice r318.d.a r318.d.n r318.d.c]] ⟨zzq ty32 zze, trivial⟩ fun u323 e324 => ?_)))
    have hc := Nt.cosV_hi (b := k) hr (by have h9 := of_decide_eq_true hb302; omega)
    refine ⟨r312, r318, rfl, RatN.more (K := 80) ?_ xq, RatN.more (K := 80) ?_ xq⟩
    ·rw [hc]; exact (h313.ext (e317.trans (g321.ext.trans e324)))
    ·rw [hc]; exact (h319.ext e324)
   ·replace hb302 : (decide ((q : Int) < ((2 * r : Nat) : Int))) = false := hb302
    have qhb302 := of_decide_eq_false hb302
    refine zzr (zzo ?_)
    refine zzd (zzs (sq9 (zzh 41 (zI r) ty3 zzk (zza 42 (zB ((r : Int) == 0)) (zza 40 (zB ((r : Int) == 0)) (zzb (zzt (b := (r : Int) == 0) xj (fun hb325 => ?_) (fun hb325 => ?_))))))))
    ·replace hb325 : ((r : Int) == 0) = true := hb325
     have qhb325 : (r : Int) = 0 := by simpa using hb325
     refine sq9 (zzg 43 118 [.int .i64 1] ?_)
     intro w326 u326 e326 d326
     have k331 := k_ratOf d326 (z := 1) xq xq
     with_reducible refine zPm k331 ?_
     rintro _ u329 g330 ⟨r327, rfl, h328⟩
     refine zza 44 (zI k) (zzg 45 177 [r327.v, .int .i64 k] ?_)
     intro w332 u332 e332 d332
     have k339 := k_exactly (k := k) d332 (h328.ext e332) xq xq
     with_reducible refine zPm k339 ?_
     rintro _ u337 g338 ⟨r333, r335, rfl, h334, h336⟩
     refine zzi ⟨32, r333.cs ++ r335.cs⟩ ty32 ?_
     refine zzb (zzn (zyt (zzv (ret0 [.agg #[.bool r333.s, .slice r333.m.a r333.m.n r333.m.c, .slice r333.d.a r333.d.n r333.d.c, .bool r335.s, .slice r335.m.a r335.m.n r335.m.c, .slice r335.d.a r335.d.n r335.d.c]] ⟨zzq ty32 zze, trivial⟩ fun u340 e341 => ?_))))
     have hc := (Nt.cosV_lo (b := k) hr (by have h9 := of_decide_eq_false hb302; omega)).trans (Nt.cosA_0 (r := r) (q := q) (b := k) (by have h9 := hb325; simp at h9; omega))
     refine ⟨r333, r335, rfl, RatN.more (K := 80) ?_ xq, RatN.more (K := 80) ?_ xq⟩
     ·rw [hc]; exact (h334.ext e341)
     ·rw [hc]; exact (h336.ext e341)
    ·replace hb325 : ((r : Int) == 0) = false := hb325
     have qhb325 : ¬ ((r : Int) = 0) := by simpa using hb325
     refine sq9 (zzh 47 (zI r) ty3 zzk (zyp 48 (x := zI (IntKind.i64.wrap ((2 : Int) * (r : Int)))) (zI (2 * r : Nat)) (eqI xz) (zzh 49 (zI q) ty3 zzk (zza 50 (zB (((2 * r : Nat) : Int) == (q : Int))) (zza 46 (zB (((2 * r : Nat) : Int) == (q : Int))) (zzb (zzt (b := ((2 * r : Nat) : Int) == (q : Int)) xj (fun hb342 => ?_) (fun hb342 => ?_))))))))
     ·replace hb342 : (((2 * r : Nat) : Int) == (q : Int)) = true := hb342
      refine sq9 (zzg 51 118 [.int .i64 0] ?_)
      intro w343 u343 e343 d343
      have k348 := k_ratOf d343 (z := 0) xq xq
      with_reducible refine zPm k348 ?_
      rintro _ u346 g347 ⟨r344, rfl, h345⟩
      refine zza 52 (zI k) (zzg 53 177 [r344.v, .int .i64 k] ?_)
      intro w349 u349 e349 d349
      have k356 := k_exactly (k := k) d349 (h345.ext e349) xq xq
      with_reducible refine zPm k356 ?_
      rintro _ u354 g355 ⟨r350, r352, rfl, h351, h353⟩
      refine zzi ⟨32, r350.cs ++ r352.cs⟩ ty32 ?_
      refine zzb (zzn (zyt (zzv (ret0 [.agg #[.bool r350.s, .slice r350.m.a r350.m.n r350.m.c, .slice r350.d.a r350.d.n r350.d.c, .bool r352.s, .slice r352.m.a r352.m.n r352.m.c, .slice r352.d.a r352.d.n r352.d.c]] ⟨zzq ty32 zze, trivial⟩ fun u357 e358 => ?_))))
      have hc := (Nt.cosV_lo (b := k) hr (by have h9 := of_decide_eq_false hb302; omega)).trans (Nt.cosA_h (r := r) (q := q) (b := k) (by have h9 := hb325; simp at h9; omega) (by have h9 := hb342; simp at h9; omega))
      refine ⟨r350, r352, rfl, RatN.more (K := 80) ?_ xq, RatN.more (K := 80) ?_ xq⟩
      ·rw [hc]; exact (h351.ext e358)
      ·rw [hc]; exact (h353.ext e358)
     ·replace hb342 : (((2 * r : Nat) : Int) == (q : Int)) = false := hb342
      have q9hb342 : ¬ 2 * r = q := by have h9 := hb342; simp at h9; omega
      refine sq9 (zzh 55 (zI r) ty3 zzk (zyp 56 (x := zI (IntKind.i64.wrap ((3 : Int) * (r : Int)))) (zI (3 * r : Nat)) (eqI xz) (zzh 57 (zI q) ty3 zzk (zza 58 (zB (((3 * r : Nat) : Int) == (q : Int))) (zza 54 (zB (((3 * r : Nat) : Int) == (q : Int))) (zzb (zzt (b := ((3 * r : Nat) : Int) == (q : Int)) xj (fun hb359 => ?_) (fun hb359 => ?_))))))))
      ·replace hb359 : (((3 * r : Nat) : Int) == (q : Int)) = true := hb359
       refine sq9 (zzg 59 127 [.int .i64 1, .int .i64 2] ?_)
       intro w360 u360 e360 d360
       have k365 := k_ratFrac d360 (a := 1) (b := 2) xq xq xq xq
       with_reducible refine zPm k365 ?_
       rintro _ u363 g364 ⟨r361, rfl, h362⟩
       refine zza 60 (zI k) (zzg 61 177 [r361.v, .int .i64 k] ?_)
       intro w366 u366 e366 d366
       have k373 := k_exactly (k := k) d366 (h362.ext e366) xq xq
       with_reducible refine zPm k373 ?_
       rintro _ u371 g372 ⟨r367, r369, rfl, h368, h370⟩
       refine zzi ⟨32, r367.cs ++ r369.cs⟩ ty32 ?_
       refine zzc 65 [(6, .adr 6 0)] [(6, ⟨32, r367.cs ++ r369.cs⟩)] (zzn (zyt (zzv (ret0 [.agg #[.bool r367.s, .slice r367.m.a r367.m.n r367.m.c, .slice r367.d.a r367.d.n r367.d.c, .bool r369.s, .slice r369.m.a r369.m.n r369.m.c, .slice r369.d.a r369.d.n r369.d.c]] ⟨zzq ty32 zze, trivial⟩ fun u374 e375 => ?_))))
       have hc := (Nt.cosV_lo (b := k) hr (by have h9 := of_decide_eq_false hb302; omega)).trans (Nt.cosA_3 (r := r) (q := q) (b := k) (by have h9 := hb325; simp at h9; omega) (by have h9 := hb342; simp at h9; omega) (by have h9 := hb359; simp at h9; omega))
       refine ⟨r367, r369, rfl, RatN.more (K := 80) ?_ xq, RatN.more (K := 80) ?_ xq⟩
       ·rw [hc]; exact (h368.ext e375)
       ·rw [hc]; exact (h370.ext e375)
      ·replace hb359 : (((3 * r : Nat) : Int) == (q : Int)) = false := hb359
       have q9hb359 : ¬ 3 * r = q := by have h9 := hb359; simp at h9; omega
       refine zzr (zzo ?_)
       refine zzd (sw_pubA (r := 3) (t := 3) [3] xk xj (by rfl) (by rfl) xj (fun b376 u377 e378 hb379 hv380 hh381 => ?_))
       refine sw_pubA (r := 4) (t := 4) [4] xk xj (by rfl) (by rfl) xj (fun b382 u383 e384 hb385 hv386 hh387 => ?_)
       refine zzf (sy_fun 62 [.pointer (some ⟨b376, 0, none⟩), .pointer (some ⟨b382, 0, none⟩)] ?_)
       refine zza 63 (zI k) (zzg 64 101 [.func (.func 178) #[] #[.pointer (some ⟨b376, 0, none⟩), .pointer (some ⟨b382, 0, none⟩)], .int .i64 k] ?_)
       intro w388 u388 e388 d388
       have k395 := k_irrCos (k := k) d388 ((e384.trans e388).cells hh381) (e388.cells hh387) hq0 xq xq xq (hG r xq xq xq) hg3 xq
       with_reducible refine zPm k395 ?_
       rintro _ u393 g394 ⟨r389, r391, rfl, h390, h392⟩
       refine zzi ⟨32, r389.cs ++ r391.cs⟩ ty32 ?_
       refine zzc 65 [(6, .adr 6 0)] [(6, ⟨32, r389.cs ++ r391.cs⟩)] (zzn (ret0 [.agg #[.bool r389.s, .slice r389.m.a r389.m.n r389.m.c, .slice r389.d.a r389.d.n r389.d.c, .bool r391.s, .slice r391.m.a r391.m.n r391.m.c, .slice r391.d.a r391.d.n r391.d.c]] ⟨zzq ty32 zze, trivial⟩ fun u396 e397 => ?_))
       have hc := (Nt.cosV_lo (b := k) hr (by have h9 := of_decide_eq_false hb302; omega)).trans (Nt.cosA_g (r := r) (q := q) (b := k) (by have h9 := hb325; simp at h9; omega) (by have h9 := hb342; simp at h9; omega) (by have h9 := hb359; simp at h9; omega))
       refine ⟨r389, r391, rfl, RatN.more (K := 70) ?_ xq, RatN.more (K := 70) ?_ xq⟩
       ·rw [hc]; exact (h390.ext e397)
       ·rw [hc]; exact (h392.ext e397)
theorem k_ePermitted {u w : World} {n : Int} (d : Dat u w) : Calls Tryz.prog 77 #[.int .i64 n] w (Post u w fun v _ => v = .bool (decide (0 ≤ n ∧ n ≤ 256))) := by
 refine zzl (args := [.int .i64 n]) Tryz.func77 rfl Tryz.ntmps77 (rs := [.tmp 2]) Tryz.results77 (le_b rfl) (le_b rfl) d ?_
 refine sq9 (zza 2 (zB false) (zzb (sq9 (zza 3 (zI n) (zza 4 (zB (decide ((0 : Int) ≤ n))) ?_)))))
 rcases Bool.eq_false_or_eq_true (decide ((0 : Int) ≤ n)) with hs11 | hs11
 ·refine zyp 5 (x := zB (decide ((0 : Int) ≤ n))) (zB true) (by rw [hs11]) ?_
  have qhs11 := of_decide_eq_true hs11
  refine zza 6 (zI n) ?_ (hw := w1 2 true 5)
  refine zza 7 (zB (decide (n ≤ 256))) ?_ (hw := w1 2 true 5)
  refine zza 8 (zB (decide (n ≤ 256))) (zza 2 (zB (decide (n ≤ 256))) (zzb (zzn (ret0 [.bool (decide (n ≤ 256))] ⟨zzp, trivial⟩ fun u12 e13 => ?_))))
  show Value.bool _ = Value.bool _
  congr 1
  symm
  have h9 := of_decide_eq_true hs11
  by_cases h8 : n ≤ 256
  ·rw [decide_eq_true h8]; exact decide_eq_true ⟨h9, h8⟩
  ·rw [decide_eq_false h8]; exact decide_eq_false (fun h => h8 h.2)
 ·refine zyp 5 (x := zB (decide ((0 : Int) ≤ n))) (zB false) (by rw [hs11]) ?_
  have qhs11 := of_decide_eq_false hs11
  refine zzm 6 (uw 2 true false 5) (zzm 7 (uw 2 true false 5) (zza 8 (zB false) (zza 2 (zB false) (zzb (zzn (ret0 [.bool false] ⟨zzp, trivial⟩ fun u14 e15 => ?_))))))
  show Value.bool _ = Value.bool _
  congr 1
  symm
  exact decide_eq_false (fun h => absurd h.1 (of_decide_eq_false hs11))
theorem k_CosPiG {u w : World} {p : Int} {q k : Nat} (d : Dat u w) (hq1 : 1 ≤ q) (hq2 : q ≤ 1000) (hp0 : -1000000 ≤ p) (hp1 : p ≤ 1000000) (hk : k ≤ 256) (hG : Nt.GapQ q k) : Calls Tryz.prog 31 #[.int .i64 p, .int .i64 (q : Int), .int .i64 (k : Int)] w (Post u w fun v u' => ∃ r1 r2 : RL, v = .tuple #[IV r1 r2, .int .i64 0] ∧ RatN u' r1 ((Nt.cosV p q k).1) 80 ∧ RatN u' r2 ((Nt.cosV p q k).2) 80) := by
 refine zzl (args := [.int .i64 p, .int .i64 q, .int .i64 k]) Tryz.func31 rfl Tryz.ntmps31 (rs := [.cell 6 32, .tmp 7]) Tryz.results31 (le_b rfl) (le_b rfl) d ?_
 refine sq9 (zzj 6 ⟨32, [.bool false, .slice none 0 0, .slice none 0 0, .bool false, .slice none 0 0, .slice none 0 0]⟩ (zza 7 (zI 0) (zzb (zzd (sq9 (zza 8 (zI k) (zzg 9 77 [.int .i64 k] ?_)))))))
 intro w11 u11 e11 d11
 have k14 := k_ePermitted (n := (k : Int)) d11
 with_reducible refine zPm k14 ?_
 rintro _ u12 g13 rfl
 refine zza 10 (zB (!(decide (0 ≤ (k : Int) ∧ (k : Int) ≤ 256)))) (zyp 11 (x := zB (!(decide (0 ≤ (k : Int) ∧ (k : Int) ≤ 256)))) (zB false) (by rw [show (!(decide (0 ≤ (k : Int) ∧ (k : Int) ≤ 256))) = false from (by rw [decide_eq_true xq]; rfl)]) (zza 12 (zI q) ?_ (hw := w1 3 false 11)))
 refine zza 13 (zB (decide ((q : Int) < 1))) ?_ (hw := w1 3 false 11)
 refine zza 14 (zB (decide ((q : Int) < 1))) (zyp 15 (x := zB (decide ((q : Int) < 1))) (zB false) (by rw [show (decide ((q : Int) < 1)) = false from decide_eq_false xq]) (zza 16 (zI q) ?_ (hw := w1 7 false 15)))
 refine zza 17 (zB (decide ((1000 : Int) < (q : Int)))) ?_ (hw := w1 7 false 15)
 refine zza 18 (zB (decide ((1000 : Int) < (q : Int)))) (zyp 19 (x := zB (decide ((1000 : Int) < (q : Int)))) (zB false) (by rw [show (decide ((1000 : Int) < (q : Int))) = false from decide_eq_false xq]) (zza 20 (zI p) ?_ (hw := w1 11 false 19)))
 refine zza 21 (zB (decide (p < (-1000000)))) ?_ (hw := w1 11 false 19)
 refine zza 22 (zB (decide (p < (-1000000)))) (zyp 23 (x := zB (decide (p < (-1000000)))) (zB false) (by rw [show (decide (p < (-1000000))) = false from decide_eq_false xq]) (zza 24 (zI p) ?_ (hw := w1 15 false 23)))
 refine zza 25 (zB (decide ((1000000 : Int) < p))) ?_ (hw := w1 15 false 23)
 refine zza 26 (zB (decide ((1000000 : Int) < p))) (zzb (zzt (b := decide ((1000000 : Int) < p)) xj (fun hb => ?_) (fun hb => ?_)))
 ·exact absurd hb (by rw [show (decide ((1000000 : Int) < p)) = false from decide_eq_false xq]; decide)
 ·clear hb
  refine zzr (zzo ?_)
  refine sq9 (zza 28 (zI p) (zza 29 (zI q) (zza 30 (zI k) (zzg 31 100 [.int .i64 p, .int .i64 q, .int .i64 k] ?_))))
  intro w19 u19 e19 d19
  have k26 := k_cosine (p := p) (q := q) (k := k) d19 xq xq hG xq xq xq
  with_reducible refine zPm k26 ?_
  rintro _ u24 g25 ⟨r20, r22, rfl, h21, h23⟩
  refine zzi ⟨32, r20.cs ++ r22.cs⟩ ty32 ?_
  refine zza 7 (zI 0) (zzb (zzn (ret0 [.agg #[.bool r20.s, .slice r20.m.a r20.m.n r20.m.c, .slice r20.d.a r20.d.n r20.d.c, .bool r22.s, .slice r22.m.a r22.m.n r22.m.c, .slice r22.d.a r22.d.n r22.d.c], .int .i64 0] ⟨zzq ty32 zze, zzp, trivial⟩ fun u27 e28 => ?_)))
  exact ⟨r20, r22, rfl, RatN.more (h21.ext e28) xq, RatN.more (h23.ext e28) xq⟩
theorem k_SinPiG {u w : World} {p : Int} {q k : Nat} (d : Dat u w) (hq1 : 1 ≤ q) (hq2 : q ≤ 1000) (hp0 : -1000000 ≤ p) (hp1 : p ≤ 1000000) (hk : k ≤ 256) (hG : Nt.GapQ (2 * q) k) : Calls Tryz.prog 36 #[.int .i64 p, .int .i64 (q : Int), .int .i64 (k : Int)] w (Post u w fun v u' => ∃ r1 r2 : RL, v = .tuple #[IV r1 r2, .int .i64 0] ∧ RatN u' r1 ((Nt.cosV ((q : Int) - 2 * p) (2 * q) k).1) 80 ∧ RatN u' r2 ((Nt.cosV ((q : Int) - 2 * p) (2 * q) k).2) 80) := by
 refine zzl (args := [.int .i64 p, .int .i64 q, .int .i64 k]) Tryz.func36 rfl Tryz.ntmps36 (rs := [.cell 6 32, .tmp 7]) Tryz.results36 (le_b rfl) (le_b rfl) d ?_
 refine sq9 (zzj 6 ⟨32, [.bool false, .slice none 0 0, .slice none 0 0, .bool false, .slice none 0 0, .slice none 0 0]⟩ (zza 7 (zI 0) (zzb (zzd (sq9 (zza 8 (zI k) (zzg 9 77 [.int .i64 k] ?_)))))))
 intro w11 u11 e11 d11
 have k14 := k_ePermitted (n := (k : Int)) d11
 with_reducible refine zPm k14 ?_
 rintro _ u12 g13 rfl
 refine zza 10 (zB (!(decide (0 ≤ (k : Int) ∧ (k : Int) ≤ 256)))) (zyp 11 (x := zB (!(decide (0 ≤ (k : Int) ∧ (k : Int) ≤ 256)))) (zB false) (by rw [show (!(decide (0 ≤ (k : Int) ∧ (k : Int) ≤ 256))) = false from (by rw [decide_eq_true xq]; rfl)]) (zza 12 (zI q) ?_ (hw := w1 3 false 11)))
 refine zza 13 (zB (decide ((q : Int) < 1))) ?_ (hw := w1 3 false 11)
 refine zza 14 (zB (decide ((q : Int) < 1))) (zyp 15 (x := zB (decide ((q : Int) < 1))) (zB false) (by rw [show (decide ((q : Int) < 1)) = false from decide_eq_false xq]) (zza 16 (zI q) ?_ (hw := w1 7 false 15)))
 refine zza 17 (zB (decide ((1000 : Int) < (q : Int)))) ?_ (hw := w1 7 false 15)
 refine zza 18 (zB (decide ((1000 : Int) < (q : Int)))) (zyp 19 (x := zB (decide ((1000 : Int) < (q : Int)))) (zB false) (by rw [show (decide ((1000 : Int) < (q : Int))) = false from decide_eq_false xq]) (zza 20 (zI p) ?_ (hw := w1 11 false 19)))
 refine zza 21 (zB (decide (p < (-1000000)))) ?_ (hw := w1 11 false 19)
 refine zza 22 (zB (decide (p < (-1000000)))) (zyp 23 (x := zB (decide (p < (-1000000)))) (zB false) (by rw [show (decide (p < (-1000000))) = false from decide_eq_false xq]) (zza 24 (zI p) ?_ (hw := w1 15 false 23)))
 refine zza 25 (zB (decide ((1000000 : Int) < p))) ?_ (hw := w1 15 false 23)
 refine zza 26 (zB (decide ((1000000 : Int) < p))) (zzb (zzt (b := decide ((1000000 : Int) < p)) xj (fun hb => ?_) (fun hb => ?_)))
 ·exact absurd hb (by rw [show (decide ((1000000 : Int) < p)) = false from decide_eq_false xq]; decide)
 ·clear hb
  refine zzr (zzo ?_)
  refine sq9 (zza 28 (zI q) (zza 29 (zI p) (zyp 30 (x := zI (IntKind.i64.wrap ((2 : Int) * p))) (zI ((2 : Int) * p)) yq (zyp 31 (x := zI (IntKind.i64.wrap ((q : Int) - ((2 : Int) * p)))) (zI ((q : Int) - ((2 : Int) * p))) yq (zza 32 (zI q) (zyp 33 (x := zI (IntKind.i64.wrap ((2 : Int) * (q : Int)))) (zI (2 * q : Nat)) (eqI xz) (zza 34 (zI k) (zzg 35 100 [.int .i64 ((q : Int) - ((2 : Int) * p)), .int .i64 (2 * q : Nat), .int .i64 k] ?_))))))))
  intro w19 u19 e19 d19
  have k26 := k_cosine (p := (q : Int) - ((2 : Int) * p)) (q := 2 * q) (k := k) d19 xq xq hG xq xq xq
  with_reducible refine zPm k26 ?_
  rintro _ u24 g25 ⟨r20, r22, rfl, h21, h23⟩
  refine zzi ⟨32, r20.cs ++ r22.cs⟩ ty32 ?_
  refine zza 7 (zI 0) (zzc 36 [(6, .adr 6 0), (7, zI 0)] [(6, ⟨32, r20.cs ++ r22.cs⟩)] (zzn (ret0 [.agg #[.bool r20.s, .slice r20.m.a r20.m.n r20.m.c, .slice r20.d.a r20.d.n r20.d.c, .bool r22.s, .slice r22.m.a r22.m.n r22.m.c, .slice r22.d.a r22.d.n r22.d.c], .int .i64 0] ⟨zzq ty32 zze, zzp, trivial⟩ fun u27 e28 => ?_)))
  exact ⟨r20, r22, rfl, RatN.more (h21.ext e28) xq, RatN.more (h23.ext e28) xq⟩
namespace Nt
end Nt
section
variable {u u' w w' : World} {x y : Sl} {N M K L s : Nat}
end
namespace Nt
end Nt
set_option maxHeartbeats 1000000 in
theorem k_ratNearest {u w : World} {r : RL} {q : Rat} {K k : Nat} (hk : k ≤ 256) (d : Dat u w) (hr : RatV u r q K) (hK : K ≤ 1000000) : Calls Tryz.prog 203 #[r.v, .int .i64 (k : Int)] w (Post u w fun v u' => ∃ p : RL, v = .tuple #[p.v, .int .i64 0] ∧ RatN u' p (Nt.gr k (Nt.nrZ q k)) (K + 30)) := by
 refine zzl (args := [r.v, .int .i64 k]) Tryz.func203 rfl Tryz.ntmps203 (rs := [.cell 4 26, .tmp 5]) Tryz.results203 (le_b rfl) (le_b rfl) d ?_
 refine sq9 (zzj 2 ⟨26, r.cs⟩ (zzj 4 ⟨26, [.bool false, .slice none 0 0, .slice none 0 0]⟩ (zza 5 (zI 0) (zzb (zzd (sq9 (zza 8 (zI k) (zza 9 (zB (decide ((k : Int) < 0))) (zyp 10 (x := zB (decide ((k : Int) < 0))) (zB false) (by rw [show (decide ((k : Int) < 0)) = false from decide_eq_false xq]) (zza 11 (zI k) ?_ (hw := w1 2 false 10)))))))))))
 refine zza 12 (zB (decide ((256 : Int) < (k : Int)))) ?_ (hw := w1 2 false 10)
 refine zza 13 (zB (decide ((256 : Int) < (k : Int)))) (zzb (zzt (b := decide ((256 : Int) < (k : Int))) xj (fun hb => ?_) (fun hb => ?_)))
 ·exact absurd hb (by rw [show (decide ((256 : Int) < (k : Int))) = false from decide_eq_false xq]; decide)
 ·clear hb
  refine zzr (zzo ?_)
  refine sq9 (zzh 15 (.v (r.v)) ty26 zze (zzg 16 147 [r.v] ?_))
  intro w12 u12 e12 d12
  have k16 := k_read d12 (hr.ext e12)
  with_reducible refine zPm k16 ?_
  rintro _ u14 g15 ⟨r13, wh13, rfl, z13, D13, hi13, hd13, hp13, hq13, hw13, hk13⟩
  refine zzj 6 ⟨149, [.bool false, .slice none 0 0, .slice none 0 0, .bool false]⟩ (zzi ⟨149, r13.cs ++ [.bool wh13]⟩ ty149 ?_)
  refine zzb (zzd (zzy [0, 1, 3, 0, 8, 31, 0, 64, 192, 511, 1023, 0, 4095] [(0, []), (1, []), (2, []), (3, []), (4, []), (6, []), (7, []), (8, []), (11, []), (5, []), (9, []), (10, []), (12, [])] xj xj (zza 17 (.adr 6 0) (zza 18 (.adr 6 0) (zzh 19 (.v (.agg #[.bool r13.s, r13.m.v])) ty24 zze (zza 20 (zI k) (zyp 21 (x := zI (IntKind.i64.wrap ((k : Int) + 1))) (zI (k + 1 : Nat)) (eqI xz) (zza 23 (.adr 6 0) (zza 24 (.adr 6 2) (zzh 25 (.v r13.d.v) ty22 zzk (zzj 7 ⟨24, [.bool false, .slice none 0 0]⟩ ?_)))))))))))
  refine zzg 22 242 [.agg #[.bool r13.s, r13.m.v], .int .i64 (k + 1 : Nat)] ?_
  intro w17 u17 e17 d17
  have k22 := k_double (s := k + 1) d17 (hi13.ext e17) xq xq
  with_reducible refine zPm k22 ?_
  rintro _ u20 g21 ⟨y18, rfl, h19⟩
  refine zzg 26 195 [r13.d.v] ?_
  intro w23 u23 e23 d23
  have k26 := k_natural (x := r13.d) d23
  with_reducible refine zPm k26 ?_
  rintro _ u24 g25 rfl
  refine zzg 27 159 [.agg #[.bool r13.s, y18.v], .agg #[.bool false, r13.d.v]] ?_
  intro w27 u27 e27 d27
  have k32 := k_intAdd d27 (h19.ext (e23.trans (g25.ext.trans e27))) (nat_int (hd13.ext (e17.trans (g21.ext.trans (e23.trans (g25.ext.trans e27)))))) xq xq
  with_reducible refine zPm k32 ?_
  rintro _ u30 g31 ⟨i28, rfl, h29⟩
  refine zzi ⟨24, i28.cs⟩ ty24 ?_
  refine zzb (zzd (zzy [0, 0, 2, 6, 14, 0, 63, 127, 255] [(0, []), (1, []), (2, []), (3, []), (5, []), (4, []), (6, []), (7, []), (8, [])] xj xj (zzh 28 (.v (i28.v)) ty24 zze (zza 29 (.adr 6 0) (zza 30 (.adr 6 2) (zzh 31 (.v r13.d.v) ty22 zzk (zza 33 (zI k) (zzg 32 79 [r13.d.v, .int .i64 1] ?_))))))))
  intro w33 u33 e33 d33
  have k38 := k_natShift (s := 1) d33 (hd13.ext (e17.trans (g21.ext.trans (e23.trans (g25.ext.trans (e27.trans (g31.ext.trans e33))))))) xq xq
  with_reducible refine zPm k38 ?_
  rintro _ u36 g37 ⟨x34, rfl, h35⟩
  refine zzg 34 243 [i28.v, x34.v, .int .i64 k] ?_
  intro w39 u39 e39 d39
  have k44 := k_onGrid (s := k) d39 (h29.ext (e33.trans (g37.ext.trans e39))).raw (h35.ext e39).raw (Nat.mul_pos hp13 xw) xq xq xq
  with_reducible refine zPm k44 ?_
  rintro _ u42 g43 ⟨r40, rfl, h41⟩
  refine zzi ⟨26, r40.cs⟩ ty26 ?_
  refine zza 5 (zI 0) (zzc 35 [(4, .adr 4 0), (5, zI 0)] [(4, ⟨26, r40.cs⟩)] (zzn (ret0 [r40.v, .int .i64 0] ⟨zzq ty26 zze, zzp, trivial⟩ fun u45 e46 => ?_)))
  refine ⟨r40, rfl, RatN.more (K := ((max (K + (k + 1) / 32 + 1) K + 1) + k / 32 + 3)) ?_ xq⟩
  have h9 := (h41.ext e46)
  rw [hq13, ← Nt.nr_mk hp13]
  exact h9
theorem k_pfloor {u w : World} {r : RL} {q : Rat} {K : Nat} (d : Dat u w) (hr : RatV u r q K) (hK : K ≤ 1000000) : Calls Tryz.prog 245 #[r.v] w (Post u w fun v u' => ∃ i : IL, v = i.v ∧ IntN u' i (Nt.flr q) (K + 1)) := by
 refine zzl (args := [r.v]) Tryz.func245 rfl Tryz.ntmps245 (rs := [.cell 2 24]) Tryz.results245 (le_b rfl) (le_b rfl) d ?_
 refine sq9 (zzj 1 ⟨26, r.cs⟩ (zzj 2 ⟨24, [.bool false, .slice none 0 0]⟩ (zzb (sq9 (zzh 7 (.v (r.v)) ty26 zze (zzg 8 147 [r.v] ?_))))))
 intro w11 u11 e11 d11
 have k15 := k_read d11 (hr.ext e11)
 with_reducible refine zPm k15 ?_
 rintro _ u13 g14 ⟨r12, wh12, rfl, z12, D12, hi12, hd12, hp12, hq12, hw12, hk12⟩
 refine zzj 3 ⟨149, [.bool false, .slice none 0 0, .slice none 0 0, .bool false]⟩ (zzi ⟨149, r12.cs ++ [.bool wh12]⟩ ty149 ?_)
 refine zzb (zzd (zzy [0, 1, 3, 0, 8, 24, 56, 127, 255, 511, 511, 511, 0, 0, 13311, 30719, 65535] [(0, []), (1, []), (2, []), (3, []), (4, []), (5, []), (12, []), (13, []), (6, []), (7, []), (8, []), (9, []), (10, []), (11, []), (14, []), (15, []), (16, [])] xj xj (zza 10 (.adr 3 0) (zza 11 (.adr 3 0) (zzh 12 (.v (.agg #[.bool r12.s, r12.m.v])) ty24 zze (zza 13 (.adr 3 0) (zza 14 (.adr 3 2) (zzh 15 (.v r12.d.v) ty22 zzk (zzj 4 ⟨24, [.bool false, .slice none 0 0]⟩ (zzj 5 ⟨24, [.bool false, .slice none 0 0]⟩ (zzg 16 195 [r12.d.v] ?_)))))))))))
 intro w16 u16 e16 d16
 have k19 := k_natural (x := r12.d) d16
 with_reducible refine zPm k19 ?_
 rintro _ u17 g18 rfl
 refine zzg 17 180 [.agg #[.bool r12.s, r12.m.v], .agg #[.bool false, r12.d.v]] ?_
 intro w20 u20 e20 d20
 have k27 := k_intDivP d20 (hi12.ext (e16.trans (g18.ext.trans e20))) (hd12.ext (e16.trans (g18.ext.trans e20))) hp12 xq xq
 with_reducible refine zPm k27 ?_
 rintro _ u25 g26 ⟨i21, i23, rfl, h22, h24⟩
 refine zza 9 (.v (.tuple #[i21.v, i23.v, .int .i64 0])) (zza 18 (.v (i21.v)) (zza 19 (.v (i23.v)) (zza 20 (zI 0) (zzi ⟨24, i21.cs⟩ ty24 ?_))))
 refine zzi ⟨24, i23.cs⟩ ty24 ?_
 refine zza 6 (zI 0) (zzb (sq9 (zzh 21 (.v (i21.v)) ty24 zze (zzi ⟨24, i21.cs⟩ ty24 ?_))))
 refine zzb (zzn (ret0 [i21.v] ⟨zzq ty24 zze, trivial⟩ fun u28 e29 => ?_))
 refine ⟨i21, rfl, IntN.more (K := (K + 1)) ?_ xq⟩
 rw [hq12, Nt.flr_mk hp12]
 exact (h22.ext e29)
set_option maxHeartbeats 2000000 in
theorem k_fxNearest {u w : World} {r : RL} {W : WL} {z : Int} {K k : Nat} (d : Dat u w) (hW : WdOK W) (hr2 : W.r = 2) (hf : W.f = (k : Int)) (hr : RatV u r (Nt.gr k z) K) (hz0 : -Nt.p2i (W.b - 1) ≤ z) (hz1 : z < Nt.p2i (W.b - 1)) (hK : K ≤ 100000) : Calls Tryz.prog 205 #[W.v, r.v] w (Post u w fun v _ => v = .tuple #[.int .i64 z, .bool true]) := by
 obtain ⟨w1, w2, w3, w4, w5, w6, w7, w8⟩ := id hW
 have hp2 : Nt.p2i W.f = ((2 ^ k : Nat) : Int) := by rw [hf]; unfold Nt.p2i; simp
 have hp3 := Nt.p2i_24 (n := W.b - 1) xq
 have hp4 := Nt.p2i_24 (n := W.f) xq
 have hp5 := Nt.zxo W.f
 have hp6 := Nt.zxo (W.b - 1)
 refine zzl (args := [.agg #[.int .i64 W.b, .int .i64 W.f, .int .i64 W.r, .int .i64 W.o], r.v]) Tryz.func205 rfl Tryz.ntmps205 (rs := [.tmp 4, .tmp 5]) Tryz.results205 (le_b rfl) (le_b rfl) d ?_
 refine sq9 (zzj 2 ⟨183, W.cs⟩ (zzj 3 ⟨26, r.cs⟩ (zza 4 (zI 0) (zza 5 (zB false) (zzb (zzd (sq9 (zzh 9 (.v (W.v)) ty183 zze (zzg 10 244 [W.v] ?_)))))))))
 intro w11 u11 e11 d11
 have k14 := k_fxValid (W := W) d11 hW
 with_reducible refine zPm k14 ?_
 rintro _ u12 g13 rfl
 refine zza 11 (zB false) (zzb (zyr xj (zzr (zzo ?_))))
 refine zzd (zzy [0, 0, 2, 6, 14, 31, 0, 127] [(0, []), (1, []), (2, []), (3, []), (6, []), (4, []), (5, []), (7, [])] xj xj (zzh 12 (.v (r.v)) ty26 zze (zza 13 (.adr 2 1) (zzh 14 (zI W.f) ty3 zzk (sy_shl 15 (k := .i64) (s := W.f) (Nt.p2i W.f) xq yw (shl_one xq xq) ?_)))))
 refine zzj 6 ⟨26, [.bool false, .slice none 0 0, .slice none 0 0]⟩ (zzg 16 118 [.int .i64 (Nt.p2i W.f)] ?_)
 intro w15 u15 e15 d15
 have k20 := k_ratOf d15 (z := Nt.p2i W.f) xq xq
 with_reducible refine zPm k20 ?_
 rintro _ u18 g19 ⟨r16, rfl, h17⟩
 refine zzg 17 123 [r.v, r16.v] ?_
 intro w21 u21 e21 d21
 have k26 := k_ratMul d21 (hr.ext (e11.trans (g13.ext.trans (e15.trans (g19.ext.trans e21))))) (h17.ext e21).raw xq xq
 with_reducible refine zPm k26 ?_
 rintro _ u24 g25 ⟨r22, rfl, h23⟩
 refine zzi ⟨26, r22.cs⟩ ty26 ?_
 refine zzb (sq9 (zzj 7 ⟨24, [.bool false, .slice none 0 0]⟩ (zzb (zzd (sq9 (zza 18 (.adr 2 2) (zzh 19 (zI W.r) ty3 zzk (zzb (zzs (sq9 (zza 23 (zB (W.r == 2)) ?_)))))))))))
 refine zza 22 (zB (W.r == 2)) (zzb (zzt (b := W.r == 2) xj (fun hb => ?_) (fun hb => ?_)))
 ·clear hb
  refine zzy [0, 0, 3, 7, 15] [(0, []), (1, []), (2, []), (3, []), (4, [])] xj xj (zzh 24 (.v (r22.v)) ty26 zze (zzg 25 127 [.int .i64 1, .int .i64 2] ?_))
  intro w27 u27 e27 d27
  have k32 := k_ratFrac d27 (a := 1) (b := 2) xq xq xq xq
  with_reducible refine zPm k32 ?_
  rintro _ u30 g31 ⟨r28, rfl, h29⟩
  refine zzg 26 126 [r22.v, r28.v] ?_
  intro w33 u33 e33 d33
  have k38 := k_ratAdd d33 (h23.ext (e27.trans (g31.ext.trans e33))).raw (h29.ext e33).raw xq xq
  with_reducible refine zPm k38 ?_
  rintro _ u36 g37 ⟨r34, rfl, h35⟩
  refine zzg 27 245 [r34.v] ?_
  intro w39 u39 e39 d39
  have k44 := k_pfloor d39 (h35.ext e39).raw xq
  with_reducible refine zPm k44 ?_
  rintro _ u42 g43 ⟨i40, rfl, h41⟩
  refine zzi ⟨24, i40.cs⟩ ty24 ?_
  refine zzw ?_
  refine zzo (zzd (zzd ?_))
  have hZ : (Nt.flr (((Nt.gr k z) * ((Nt.p2i W.f : Int) : Rat)) + (((1 : Int) : Rat) / ((2 : Int) : Rat)))) = z := by rw [hp2]; exact Nt.nr_gr z k
  have hz45 := h41
  rw [hZ] at hz45
  have hlm := NatN.one_len (int_mag hz45) xq
  have hsz : i40.s = decide (z < 0) := hz45.1
  refine zzf (zza 37 (.adr 7 1) (zzh 38 (.v i40.m.v) ty22 zzk (zza 39 (zI i40.m.n) (zza 40 (zB (decide ((1 : Int) < (i40.m.n : Int)))) (zzb (zzt (b := decide ((1 : Int) < (i40.m.n : Int))) xj (fun hb => ?_) (fun hb => ?_)))))))
  ·exact absurd hb (by rw [show (decide ((1 : Int) < (i40.m.n : Int))) = false from decide_eq_false (by split at hlm <;> omega)]; decide)
  ·clear hb
   refine zzr (zzo ?_)
   refine sq9 (zza 8 (zI 0) (zzb (zzd (sq9 (zza 41 (.adr 7 1) (zzh 42 (.v i40.m.v) ty22 zzk (zza 43 (zI i40.m.n) (zza 44 (zB ((i40.m.n : Int) == 1)) (zzb (zzt (b := (i40.m.n : Int) == 1) xj (fun hb46 => ?_) (fun hb46 => ?_)))))))))))
   ·replace hb46 : ((i40.m.n : Int) == 1) = true := hb46
    have qhb46 : (i40.m.n : Int) = 1 := by simpa using hb46
    have hn9 : 0 < z.natAbs := by have h9 := hb46; simp at h9; split at hlm <;> omega
    refine zzf (zza 45 (.adr 7 1) (zzh 46 (.v i40.m.v) ty22 zzk ?_))
    obtain ⟨bz, oz, haz, hcz⟩ := NatN.one_cell (int_mag hz45) hn9 xq
    refine zzz 47 (oz + 0 * 1) (n := i40.m.n) (off := oz) (sz := 1) (i := 0) xq haz xq xq sl22 (zyk 48 (.int .u32 (z.natAbs : Nat)) hcz ty104 (sy_conv 49 ((z.natAbs : Nat) : Int) (fun w => by kernel_rfl) (IntWalk.i64_in _ xq) ?_))
    refine zza 8 (zI z.natAbs) (zzc 59 [(2, .adr 2 0), (7, .adr 7 0), (8, zI z.natAbs)] [(2, ⟨183, W.cs⟩), (7, ⟨24, i40.cs⟩)] (zzd (sq9 (zza 50 (.adr 7 0) (zzh 51 (zB i40.s) ty4 zzk (zzb (zzt (b := i40.s) xj (fun hb47 => ?_) (fun hb47 => ?_))))))))
    ·replace hb47 : i40.s = true := hb47
     have hs9 : z < 0 := by rw [hsz] at hb47; exact of_decide_eq_true hb47
     refine zzf (zza 52 (zI z.natAbs) (zyp 53 (x := zI (IntKind.i64.wrap (0 - (z.natAbs : Int)))) (zI (-(z.natAbs : Int))) (eqI xz) (zza 8 (zI (-(z.natAbs : Int))) (zzb (zzd (sq9 (zzh 54 (.v (W.v)) ty183 zze (zza 55 (zI (-(z.natAbs : Int))) (zzg 56 246 [W.v, .int .i64 (-(z.natAbs : Int))] ?_)))))))))
     intro w48 u48 e48 d48
     have k51 := k_fxFits (W := W) (z := -(z.natAbs : Int)) d48 hW xq xq
     with_reducible refine zPm k51 ?_
     rintro _ u49 g50 rfl
     refine zza 57 (zB false) (zzb (zyr xj (zzr (zzo ?_))))
     refine sq9 (zza 58 (zI (-(z.natAbs : Int))) (zza 4 (zI (-(z.natAbs : Int))) (zza 5 (zB true) (zzb (zzn (ret0 [.int .i64 (-(z.natAbs : Int)), .bool true] ⟨zzp, zzp, trivial⟩ fun u52 e53 => ?_))))))
     show Value.tuple #[.int .i64 (-(z.natAbs : Int)), .bool true] = Value.tuple #[.int .i64 z, .bool true]
     rw [show (-(z.natAbs : Int) : Int) = z by omega]
    ·replace hb47 : i40.s = false := hb47
     have hs9 : ¬ z < 0 := by rw [hsz] at hb47; exact of_decide_eq_false hb47
     refine zzr (zzo ?_)
     refine zzd (sq9 (zzh 54 (.v (W.v)) ty183 zze (zza 55 (zI z.natAbs) (zzg 56 246 [W.v, .int .i64 z.natAbs] ?_))))
     intro w54 u54 e54 d54
     have k57 := k_fxFits (W := W) (z := (z.natAbs : Int)) d54 hW xq xq
     with_reducible refine zPm k57 ?_
     rintro _ u55 g56 rfl
     refine zza 57 (zB false) (zzb (zyr xj (zzr (zzo ?_))))
     refine sq9 (zza 58 (zI z.natAbs) (zza 4 (zI z.natAbs) (zza 5 (zB true) (zzb (zzn (ret0 [.int .i64 z.natAbs, .bool true] ⟨zzp, zzp, trivial⟩ fun u58 e59 => ?_))))))
     show Value.tuple #[.int .i64 ((z.natAbs : Int)), .bool true] = Value.tuple #[.int .i64 z, .bool true]
     rw [show ((z.natAbs : Int) : Int) = z by omega]
   ·replace hb46 : ((i40.m.n : Int) == 1) = false := hb46
    have qhb46 : ¬ ((i40.m.n : Int) = 1) := by simpa using hb46
    have hn0 : z = 0 := by have h9 := hb46; simp at h9; split at hlm <;> omega
    refine zzr (zzo ?_)
    refine zzd (sq9 (zza 50 (.adr 7 0) (zzh 51 (zB i40.s) ty4 zzk (zzc 59 [(2, .adr 2 0), (8, zI 0), (51, zB i40.s)] [(2, ⟨183, W.cs⟩)] (zzt (b := i40.s) xj (fun hb60 => ?_) (fun hb60 => ?_))))))
    ·replace hb60 : i40.s = true := hb60
     have hs9 : z < 0 := by rw [hsz] at hb60; exact of_decide_eq_true hb60
     refine zzf (zza 52 (zI 0) (zza 53 (zI 0) (zza 8 (zI 0) (zzb (zzd (sq9 (zzh 54 (.v (W.v)) ty183 zze (zza 55 (zI 0) (zzg 56 246 [W.v, .int .i64 0] ?_)))))))))
     intro w61 u61 e61 d61
     have k64 := k_fxFits (W := W) (z := 0) d61 hW xq xq
     with_reducible refine zPm k64 ?_
     rintro _ u62 g63 rfl
     refine zza 57 (zB false) (zzb (zyr xj (zzr (zzo ?_))))
     refine sq9 (zza 58 (zI 0) (zza 4 (zI 0) (zza 5 (zB true) (zzb (zzn (ret0 [.int .i64 0, .bool true] ⟨zzp, zzp, trivial⟩ fun u65 e66 => ?_))))))
     show Value.tuple #[.int .i64 (0), .bool true] = Value.tuple #[.int .i64 z, .bool true]
     rw [show (0 : Int) = z by omega]
    ·replace hb60 : i40.s = false := hb60
     have hs9 : ¬ z < 0 := by rw [hsz] at hb60; exact of_decide_eq_false hb60
     refine zzr (zzo ?_)
     refine zzd (sq9 (zzh 54 (.v (W.v)) ty183 zze (zza 55 (zI 0) (zzg 56 246 [W.v, .int .i64 0] ?_))))
     intro w67 u67 e67 d67
     have k70 := k_fxFits (W := W) (z := 0) d67 hW xq xq
     with_reducible refine zPm k70 ?_
     rintro _ u68 g69 rfl
     refine zza 57 (zB false) (zzb (zyr xj (zzr (zzo ?_))))
     refine sq9 (zza 58 (zI 0) (zza 4 (zI 0) (zza 5 (zB true) (zzb (zzn (ret0 [.int .i64 0, .bool true] ⟨zzp, zzp, trivial⟩ fun u71 e72 => ?_))))))
     show Value.tuple #[.int .i64 (0), .bool true] = Value.tuple #[.int .i64 z, .bool true]
     rw [show (0 : Int) = z by omega]
 ·exact absurd hb (by rw [show (W.r == 2) = true from (by rw [hr2]; rfl)]; decide)
set_option maxHeartbeats 1000000 in
theorem k_dcoef {u w : World} {a1 a2 : RL} {x1 x2 : Rat} {K k : Nat} (d : Dat u w) (ha1 : RatV u a1 x1 K) (ha2 : RatV u a2 x2 K) (hk1 : 1 ≤ k) (hk2 : k ≤ 20) (hc0 : -2097152 ≤ Nt.coZ x1 x2 k) (hc1 : Nt.coZ x1 x2 k ≤ 2097152) (hK : K ≤ 10000) : Calls Tryz.prog 137 #[IV a1 a2, .int .i64 (k : Int)] w (Post u w fun v u' => v = .int .i64 (Nt.coZ x1 x2 k)) := by
 have hWk : WdOK (⟨24, (k : Int), 2, 1⟩ : WL) := ⟨(by show (4 : Int) ≤ 24; decide), (by show (24 : Int) ≤ 24; decide), Int.natCast_nonneg k, (by show (k : Int) < 24; omega), (by show (1 : Int) ≤ 2; decide), (by show (2 : Int) ≤ 3; decide), (by show (1 : Int) ≤ 1; decide), (by show (1 : Int) ≤ 2; decide)⟩
 have hp23 : Nt.p2i (24 - 1) = 8388608 := by decide
 unfold Nt.coZ at hc0 hc1
 refine zzl (args := [.agg #[.bool a1.s, .slice a1.m.a a1.m.n a1.m.c, .slice a1.d.a a1.d.n a1.d.c, .bool a2.s, .slice a2.m.a a2.m.n a2.m.c, .slice a2.d.a a2.d.n a2.d.c], .int .i64 k]) Tryz.func137 rfl Tryz.ntmps137 (rs := [.tmp 4]) Tryz.results137 (le_b rfl) (le_b rfl) d ?_
 refine sq9 (zzj 2 ⟨32, a1.cs ++ a2.cs⟩ (zza 4 (zI 0) (zzb (sq9 (zzh 11 (.v (.agg #[.bool a1.s, a1.m.v, a1.d.v, .bool a2.s, a2.m.v, a2.d.v])) ty32 zze (zzg 12 204 [.agg #[.bool a1.s, a1.m.v, a1.d.v, .bool a2.s, a2.m.v, a2.d.v]] ?_))))))
 intro w11 u11 e11 d11
 have k16 := k_ivMid d11 (ha1.ext e11) (ha2.ext e11) xq
 with_reducible refine zPm k16 ?_
 rintro _ u14 g15 ⟨r12, rfl, h13⟩
 refine zza 13 (zI k) (zzg 14 203 [r12.v, .int .i64 k] ?_)
 intro w17 u17 e17 d17
 have k22 := k_ratNearest (k := k) xq d17 (h13.ext e17).raw xq
 with_reducible refine zPm k22 ?_
 rintro _ u20 g21 ⟨r18, rfl, h19⟩
 refine zza 10 (.v (.tuple #[r18.v, .int .i64 0])) (zza 15 (.v (r18.v)) (zza 16 (zI 0) (zzj 5 ⟨26, [.bool false, .slice none 0 0, .slice none 0 0]⟩ (zzi ⟨26, r18.cs⟩ ty26 ?_))))
 refine zza 6 (zI 0) (zzb (zzd (sq9 (zza 17 (zI 0) (zza 18 (zB false) (zzb (zyr xj (zzr (zzo ?_)))))))))
 refine sq9 (zza 19 (zI k) (zza 20 (.v (.agg #[.int .i64 24, .int .i64 k, .int .i64 2, .int .i64 1])) (zzj 7 ⟨183, [.int .i64 0, .int .i64 0, .int .i64 0, .int .i64 0]⟩ (zzi ⟨183, [.int .i64 24, .int .i64 k, .int .i64 2, .int .i64 1]⟩ ty183 ?_))))
 refine zzb (sq9 (zzh 22 (.v (.agg #[.int .i64 24, .int .i64 k, .int .i64 2, .int .i64 1])) ty183 zze (zzh 23 (.v (r18.v)) ty26 zze (zzg 24 205 [.agg #[.int .i64 24, .int .i64 k, .int .i64 2, .int .i64 1], r18.v] ?_))))
 intro w23 u23 e23 d23
 have k26 := k_fxNearest (W := (⟨24, (k : Int), 2, 1⟩ : WL)) (z := (Nt.nrZ ((x1 + x2) * (((1 : Int) : Rat) / ((2 : Int) : Rat))) k)) (k := k) d23 hWk rfl rfl (h19.ext e23).raw (by show -Nt.p2i (24 - 1) ≤ _; omega) (by show _ < Nt.p2i (24 - 1); omega) xq
 with_reducible refine zPm k26 ?_
 rintro _ u24 g25 rfl
 refine zza 21 (.v (.tuple #[.int .i64 (Nt.nrZ ((x1 + x2) * (((1 : Int) : Rat) / ((2 : Int) : Rat))) k), .bool true])) (zza 25 (zI (Nt.nrZ ((x1 + x2) * (((1 : Int) : Rat) / ((2 : Int) : Rat))) k)) (zza 26 (zB true) (zza 8 (zI (Nt.nrZ ((x1 + x2) * (((1 : Int) : Rat) / ((2 : Int) : Rat))) k)) (zza 9 (zB true) (zzb (sq9 (zza 27 (zI (Nt.nrZ ((x1 + x2) * (((1 : Int) : Rat) / ((2 : Int) : Rat))) k)) (zza 4 (zI (Nt.nrZ ((x1 + x2) * (((1 : Int) : Rat) / ((2 : Int) : Rat))) k)) (zzb (zzn (ret0 [.int .i64 (Nt.nrZ ((x1 + x2) * (((1 : Int) : Rat) / ((2 : Int) : Rat))) k)] ⟨zzp, trivial⟩ fun u27 e28 => ?_)))))))))))
 rfl
set_option maxHeartbeats 2000000 in
theorem k_rotate {u w : World} {i j p q k : Nat} (d : Dat u w) (hi : i < 64) (hj : j < 64) (hij : i ≠ j) (hp : 0 < p) (hpq : 2 * p ≤ q) (hq : q ≤ 500) (hk1 : 1 ≤ k) (hk2 : k ≤ 20) (hO : Nt.RotOK p q k) : Calls Tryz.prog 69 #[.int .i64 (i : Int), .int .i64 (j : Int), .int .i64 (p : Int), .int .i64 (q : Int), .int .i64 (k : Int)] w (Post u w fun v u' => ∃ x : Sl, v = .tuple #[x.v, .int .i64 0] ∧ IrV 4 u' x (Nt.roL i j p q k)) := by
 have hT0 := hO.t0
 have hT1 := hO.t1
 have hS0 := hO.s0
 have hS1 := hO.s1
 unfold Nt.roT at hT0 hT1
 unfold Nt.roS at hS0 hS1
 refine zzl (args := [.int .i64 i, .int .i64 j, .int .i64 p, .int .i64 q, .int .i64 k]) Tryz.func69 rfl Tryz.ntmps69 (rs := [.tmp 10, .tmp 11]) Tryz.results69 (le_b rfl) (le_b rfl) d ?_
 refine sq9 (zza 10 (.v (.slice none 0 0)) (zza 11 (zI 0) (zzb (zzd (sq9 (zza 22 (zI i) (zza 23 (zB (decide ((i : Int) < 0))) (zyp 24 (x := zB (decide ((i : Int) < 0))) (zB false) (by rw [show (decide ((i : Int) < 0)) = false from decide_eq_false xq]) (zza 25 (zI i) ?_ (hw := w1 2 false 24))))))))))
 refine zza 26 (zB (decide ((64 : Int) ≤ (i : Int)))) ?_ (hw := w1 2 false 24)
 refine zza 27 (zB (decide ((64 : Int) ≤ (i : Int)))) (zyp 28 (x := zB (decide ((64 : Int) ≤ (i : Int)))) (zB false) (by rw [show (decide ((64 : Int) ≤ (i : Int))) = false from decide_eq_false xq]) (zza 29 (zI j) ?_ (hw := w1 6 false 28)))
 refine zza 30 (zB (decide ((j : Int) < 0))) ?_ (hw := w1 6 false 28)
 refine zza 31 (zB (decide ((j : Int) < 0))) (zyp 32 (x := zB (decide ((j : Int) < 0))) (zB false) (by rw [show (decide ((j : Int) < 0)) = false from decide_eq_false xq]) (zza 33 (zI j) ?_ (hw := w1 10 false 32)))
 refine zza 34 (zB (decide ((64 : Int) ≤ (j : Int)))) ?_ (hw := w1 10 false 32)
 refine zza 35 (zB (decide ((64 : Int) ≤ (j : Int)))) (zyp 36 (x := zB (decide ((64 : Int) ≤ (j : Int)))) (zB false) (by rw [show (decide ((64 : Int) ≤ (j : Int))) = false from decide_eq_false xq]) (zza 37 (zI i) ?_ (hw := w1 14 false 36)))
 refine zza 38 (zI j) ?_ (hw := w1 14 false 36)
 refine zza 39 (zB ((i : Int) == (j : Int))) ?_ (hw := w1 14 false 36)
 refine zza 40 (zB ((i : Int) == (j : Int))) (zzb (zzt (b := (i : Int) == (j : Int)) xj (fun hb => ?_) (fun hb => ?_)))
 ·exact absurd hb (by rw [show ((i : Int) == (j : Int)) = false from yy]; decide)
 ·clear hb
  refine zzr (zzo ?_)
  refine zzd (sq9 (zza 41 (zI q) (zza 42 (zB (decide ((500 : Int) < (q : Int)))) (zyp 43 (x := zB (decide ((500 : Int) < (q : Int)))) (zB false) (by rw [show (decide ((500 : Int) < (q : Int))) = false from decide_eq_false xq]) (zza 44 (zI p) ?_ (hw := w1 2 false 43))))))
  refine zza 45 (zB (decide ((p : Int) ≤ 0))) ?_ (hw := w1 2 false 43)
  refine zza 46 (zB (decide ((p : Int) ≤ 0))) (zyp 47 (x := zB (decide ((p : Int) ≤ 0))) (zB false) (by rw [show (decide ((p : Int) ≤ 0)) = false from decide_eq_false xq]) (zza 48 (zI p) ?_ (hw := w1 6 false 47)))
  refine zza 49 (zI q) ?_ (hw := w1 6 false 47)
  refine sy_quo 50 (n := (q : Int)) (m := 2) ((q / 2 : Nat) : Int) xw (by rw [Int.tdiv_eq_ediv_of_nonneg xq]; exact (IntWalk.i64_in _ xq).trans xq) ?_ (hw := w1 6 false 47)
  refine zza 51 (zB (decide (((q / 2 : Nat) : Int) < (p : Int)))) ?_ (hw := w1 6 false 47)
  refine zza 52 (zB (decide (((q / 2 : Nat) : Int) < (p : Int)))) (zyp 53 (x := zB (decide (((q / 2 : Nat) : Int) < (p : Int)))) (zB false) (by rw [show (decide (((q / 2 : Nat) : Int) < (p : Int))) = false from decide_eq_false xq]) (zza 54 (zI k) ?_ (hw := w1 12 false 53)))
  refine zza 55 (zB (decide ((k : Int) < 1))) ?_ (hw := w1 12 false 53)
  refine zza 56 (zB (decide ((k : Int) < 1))) (zyp 57 (x := zB (decide ((k : Int) < 1))) (zB false) (by rw [show (decide ((k : Int) < 1)) = false from decide_eq_false xq]) (zza 58 (zI k) ?_ (hw := w1 16 false 57)))
  refine zza 59 (zB (decide ((20 : Int) < (k : Int)))) ?_ (hw := w1 16 false 57)
  refine zza 60 (zB (decide ((20 : Int) < (k : Int)))) (zzc 127 [(0, zI i), (1, zI j), (2, zI p), (3, zI q), (4, zI k), (60, zB (decide ((20 : Int) < (k : Int))))] [] (zzt (b := decide ((20 : Int) < (k : Int))) xj (fun hb => ?_) (fun hb => ?_)))
  ·exact absurd hb (by rw [show (decide ((20 : Int) < (k : Int))) = false from decide_eq_false xq]; decide)
  ·clear hb
   refine zzr (zzo ?_)
   refine sq9 (zza 62 (zI p) (zza 63 (zI q) (zyp 64 (x := zI (IntKind.i64.wrap ((2 : Int) * (q : Int)))) (zI (2 * q : Nat)) (eqI xz) (zzg 65 36 [.int .i64 p, .int .i64 (2 * q : Nat), .int .i64 64] ?_))))
   intro w19 u19 e19 d19
   have k26 := k_SinPiG (p := (p : Int)) (q := 2 * q) (k := 64) d19 xq xq xq xq xq hO.g1
   with_reducible refine zPm k26 ?_
   rintro _ u24 g25 ⟨r20, r22, rfl, h21, h23⟩
   refine zza 61 (.v (.tuple #[.agg #[.bool r20.s, r20.m.v, r20.d.v, .bool r22.s, r22.m.v, r22.d.v], .int .i64 0])) (zza 66 (.v (.agg #[.bool r20.s, r20.m.v, r20.d.v, .bool r22.s, r22.m.v, r22.d.v])) (zza 67 (zI 0) (zzj 12 ⟨32, [.bool false, .slice none 0 0, .slice none 0 0, .bool false, .slice none 0 0, .slice none 0 0]⟩ (zzi ⟨32, r20.cs ++ r22.cs⟩ ty32 ?_))))
   refine zza 13 (zI 0) (zzb (sq9 (zza 69 (zI p) (zza 70 (zI q) (zyp 71 (x := zI (IntKind.i64.wrap ((2 : Int) * (q : Int)))) (zI (2 * q : Nat)) (eqI xz) (zzg 72 31 [.int .i64 p, .int .i64 (2 * q : Nat), .int .i64 64] ?_))))))
   intro w27 u27 e27 d27
   have k34 := k_CosPiG (p := (p : Int)) (q := 2 * q) (k := 64) d27 xq xq xq xq xq hO.g2
   with_reducible refine zPm k34 ?_
   rintro _ u32 g33 ⟨r28, r30, rfl, h29, h31⟩
   refine zza 68 (.v (.tuple #[.agg #[.bool r28.s, r28.m.v, r28.d.v, .bool r30.s, r30.m.v, r30.d.v], .int .i64 0])) (zza 73 (.v (.agg #[.bool r28.s, r28.m.v, r28.d.v, .bool r30.s, r30.m.v, r30.d.v])) (zza 74 (zI 0) (zzj 14 ⟨32, [.bool false, .slice none 0 0, .slice none 0 0, .bool false, .slice none 0 0, .slice none 0 0]⟩ (zzi ⟨32, r28.cs ++ r30.cs⟩ ty32 ?_))))
   refine zza 15 (zI 0) (zzb (sq9 (zza 76 (zI p) (zza 77 (zI q) (zzg 78 36 [.int .i64 p, .int .i64 q, .int .i64 64] ?_)))))
   intro w35 u35 e35 d35
   have k42 := k_SinPiG (p := (p : Int)) (q := q) (k := 64) d35 xq xq xq xq xq hO.g2
   with_reducible refine zPm k42 ?_
   rintro _ u40 g41 ⟨r36, r38, rfl, h37, h39⟩
   refine zza 75 (.v (.tuple #[.agg #[.bool r36.s, r36.m.v, r36.d.v, .bool r38.s, r38.m.v, r38.d.v], .int .i64 0])) (zza 79 (.v (.agg #[.bool r36.s, r36.m.v, r36.d.v, .bool r38.s, r38.m.v, r38.d.v])) (zza 80 (zI 0) (zzj 16 ⟨32, [.bool false, .slice none 0 0, .slice none 0 0, .bool false, .slice none 0 0, .slice none 0 0]⟩ (zzi ⟨32, r36.cs ++ r38.cs⟩ ty32 ?_))))
   refine zza 17 (zI 0) (zzb (sq9 (zzh 82 (.v (.agg #[.bool r20.s, r20.m.v, r20.d.v, .bool r22.s, r22.m.v, r22.d.v])) ty32 zze (zzh 83 (.v (.agg #[.bool r28.s, r28.m.v, r28.d.v, .bool r30.s, r30.m.v, r30.d.v])) ty32 zze (zzg 84 136 [.agg #[.bool r20.s, r20.m.v, r20.d.v, .bool r22.s, r22.m.v, r22.d.v], .agg #[.bool r28.s, r28.m.v, r28.d.v, .bool r30.s, r30.m.v, r30.d.v]] ?_)))))
   intro w43 u43 e43 d43
   have k49 := k_ivDivO d43 (h21.ext (e27.trans (g33.ext.trans (e35.trans (g41.ext.trans e43))))).raw (h23.ext (e27.trans (g33.ext.trans (e35.trans (g41.ext.trans e43))))).raw (h29.ext (e35.trans (g41.ext.trans e43))).raw (h31.ext (e35.trans (g41.ext.trans e43))).raw xq xq
   with_reducible refine zPm k49 ?_
   rintro _ u47 g48 ⟨r44, r45, rfl, h46⟩
   refine zza 81 (.v (.tuple #[.agg #[.bool r44.s, r44.m.v, r44.d.v, .bool r45.s, r45.m.v, r45.d.v], .int .i64 (Nt.divE (Nt.rCH p q).1 (Nt.rCH p q).2)])) (zza 85 (.v (.agg #[.bool r44.s, r44.m.v, r44.d.v, .bool r45.s, r45.m.v, r45.d.v])) (zza 86 (zI (Nt.divE (Nt.rCH p q).1 (Nt.rCH p q).2)) (zzj 18 ⟨32, [.bool false, .slice none 0 0, .slice none 0 0, .bool false, .slice none 0 0, .slice none 0 0]⟩ (zzi ⟨32, r44.cs ++ r45.cs⟩ ty32 ?_))))
   refine zza 19 (zI (Nt.divE (Nt.rCH p q).1 (Nt.rCH p q).2)) (zzc 127 [(0, zI i), (1, zI j), (4, zI k), (13, zI 0), (15, zI 0), (16, .adr 16 0), (17, zI 0), (18, .adr 18 0), (19, zI (Nt.divE (Nt.rCH p q).1 (Nt.rCH p q).2))] [(16, ⟨32, r36.cs ++ r38.cs⟩), (18, ⟨32, r44.cs ++ r45.cs⟩)] (zzd (sq9 (zza 87 (zI 0) (zza 88 (zB false) (zza 89 (zB false) (zza 90 (zI 0) ?_ (hw := w1 2 false 89))))))))
   refine zza 91 (zB false) ?_ (hw := w1 2 false 89)
   refine zza 92 (zB false) (zza 93 (zB false) (zza 94 (zI 0) ?_ (hw := w1 6 false 93)))
   refine zza 95 (zB false) ?_ (hw := w1 6 false 93)
   refine zza 96 (zB false) (zza 97 (zB false) (zza 98 (zI (Nt.divE (Nt.rCH p q).1 (Nt.rCH p q).2)) ?_ (hw := w1 10 false 97)))
   refine zza 99 (zB ((Nt.divE (Nt.rCH p q).1 (Nt.rCH p q).2) != 0)) ?_ (hw := w1 10 false 97)
   refine zza 100 (zB ((Nt.divE (Nt.rCH p q).1 (Nt.rCH p q).2) != 0)) (zzb (zzt (b := (Nt.divE (Nt.rCH p q).1 (Nt.rCH p q).2) != 0) xj (fun hb => ?_) (fun hb => ?_)))
   ·exact absurd hb (by rw [show ((Nt.divE (Nt.rCH p q).1 (Nt.rCH p q).2) != 0) = false from (by rw [hO.div.1]; rfl)]; decide)
   ·clear hb
    refine zzr (zzo ?_)
    refine zzd ?_
    have hD50 : OptI u47 r44 r45 (Nt.divO (Nt.rSH p q).1 (Nt.rSH p q).2 (Nt.rCH p q).1 (Nt.rCH p q).2) (80 + 80 + 20) := h46
    rw [hO.div.2] at hD50
    refine zzf (zzh 101 (.v (.agg #[.bool r44.s, r44.m.v, r44.d.v, .bool r45.s, r45.m.v, r45.d.v])) ty32 zze (zza 102 (zI k) (zzg 103 137 [.agg #[.bool r44.s, r44.m.v, r44.d.v, .bool r45.s, r45.m.v, r45.d.v], .int .i64 k] ?_)))
    intro w51 u51 e51 d51
    have k54 := k_dcoef (x1 := (Nt.rTA p q).1) (x2 := (Nt.rTA p q).2) (k := k) d51 (hD50.1.ext e51).raw (hD50.2.ext e51).raw xq xq hO.t0 hO.t1 xq
    with_reducible refine zPm k54 ?_
    rintro _ u52 g53 rfl
    refine zza 20 (zI (Nt.coZ ((Nt.rTA p q).1) ((Nt.rTA p q).2) k)) (zzb (sq9 (zzh 104 (.v (.agg #[.bool r36.s, r36.m.v, r36.d.v, .bool r38.s, r38.m.v, r38.d.v])) ty32 zze (zza 105 (zI k) (zzg 106 137 [.agg #[.bool r36.s, r36.m.v, r36.d.v, .bool r38.s, r38.m.v, r38.d.v], .int .i64 k] ?_)))))
    intro w55 u55 e55 d55
    have k58 := k_dcoef (x1 := (Nt.rSI p q).1) (x2 := (Nt.rSI p q).2) (k := k) d55 (h37.ext (e43.trans (g48.ext.trans (e51.trans (g53.ext.trans e55))))).raw (h39.ext (e43.trans (g48.ext.trans (e51.trans (g53.ext.trans e55))))).raw xq xq hO.s0 hO.s1 xq
    with_reducible refine zPm k58 ?_
    rintro _ u56 g57 rfl
    refine zza 21 (zI (Nt.coZ ((Nt.rSI p q).1) ((Nt.rSI p q).2) k)) (zzb (sq9 (zza 107 (zI i) (zza 108 (zI j) (zza 109 (zI (Nt.coZ ((Nt.rTA p q).1) ((Nt.rTA p q).2) k)) (zza 110 (zI k) (zza 111 (.v (.agg #[.int .i64 i, .int .i64 j, .int .i64 (Nt.coZ ((Nt.rTA p q).1) ((Nt.rTA p q).2) k), .int .i64 k])) (zza 112 (zI j) (zza 113 (zI i) (zza 114 (zI (Nt.coZ ((Nt.rSI p q).1) ((Nt.rSI p q).2) k)) (zyp 115 (x := zI (IntKind.i64.wrap (0 - (Nt.coZ ((Nt.rSI p q).1) ((Nt.rSI p q).2) k)))) (zI (-(Nt.coZ ((Nt.rSI p q).1) ((Nt.rSI p q).2) k))) (eqI xz) ?_)))))))))))
    refine zza 116 (zI k) (zza 117 (.v (.agg #[.int .i64 j, .int .i64 i, .int .i64 (-(Nt.coZ ((Nt.rSI p q).1) ((Nt.rSI p q).2) k)), .int .i64 k])) (zza 118 (zI i) (zza 119 (zI j) (zza 120 (zI (Nt.coZ ((Nt.rTA p q).1) ((Nt.rTA p q).2) k)) (zza 121 (zI k) (zza 122 (.v (.agg #[.int .i64 i, .int .i64 j, .int .i64 (Nt.coZ ((Nt.rTA p q).1) ((Nt.rTA p q).2) k), .int .i64 k])) (zza 123 (zI j) (zza 124 (zI j) (zza 125 (.v (.agg #[.int .i64 j, .int .i64 j, .int .i64 0, .int .i64 (-2)])) (zxw 126 ⟨90, [.int .i64 i, .int .i64 j, .int .i64 (Nt.coZ ((Nt.rTA p q).1) ((Nt.rTA p q).2) k), .int .i64 k, .int .i64 j, .int .i64 i, .int .i64 (-(Nt.coZ ((Nt.rSI p q).1) ((Nt.rSI p q).2) k)), .int .i64 k, .int .i64 i, .int .i64 j, .int .i64 (Nt.coZ ((Nt.rTA p q).1) ((Nt.rTA p q).2) k), .int .i64 k, .int .i64 j, .int .i64 j, .int .i64 0, .int .i64 (-2)]⟩ 4 (fun b59 u60 e61 h62 => ?_)))))))))))
    have hp63 : IrV 4 u60 (⟨some ⟨b59, 0, none⟩, 4, 4⟩ : Sl) [[(i : Int), (j : Int), (Nt.coZ ((Nt.rTA p q).1) ((Nt.rTA p q).2) k), (k : Int)], [(j : Int), (i : Int), -(Nt.coZ ((Nt.rSI p q).1) ((Nt.rSI p q).2) k), (k : Int)], [(i : Int), (j : Int), (Nt.coZ ((Nt.rTA p q).1) ((Nt.rTA p q).2) k), (k : Int)], [(j : Int), (j : Int), 0, (-2)]] := ir_data h62 (rows_cons rfl (rows_cons rfl (rows_cons rfl (rows_cons rfl rows_nil)))) rfl rfl rfl (Nat.le_refl _) yv
    refine zza 10 (.v (.slice (some ⟨b59, 0, none⟩) 4 4)) (zza 11 (zI 0) (zzc 127 [(10, .v (.slice (some ⟨b59, 0, none⟩) 4 4)), (11, zI 0)] [] (zzn (ret0 [.slice (some ⟨b59, 0, none⟩) 4 4, .int .i64 0] ⟨zzp, zzp, trivial⟩ fun u64 e65 => ?_))))
    exact ⟨(⟨some ⟨b59, 0, none⟩, 4, 4⟩ : Sl), rfl, (hp63.ext e65)⟩
end Go.Proofs.YtbolmkfphieogaaGreat

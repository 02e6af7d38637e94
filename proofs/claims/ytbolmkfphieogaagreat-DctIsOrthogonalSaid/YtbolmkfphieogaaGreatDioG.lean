/- Parts of the proof: contracts of functions, each walked once, and plain laws. -/
import Derived.Test.YtbolmkfphieogaaGreatDioF
set_option linter.unusedVariables false
namespace Go.Proofs.YtbolmkfphieogaaGreat
open Go.RowKit
set_option maxHeartbeats 1000000 in
theorem k_rqPow {u w : World} {r : RL} {q : Rat} {K n : Nat} (d : Dat u w) (hr : RatV u r q K) (hn : n ≤ 64) (hK : K ≤ 100000) : Calls Tryz.prog 24 #[r.v, .int .i64 (n : Int)] w (Post u w fun v u' => ∃ p : RL, v = .tuple #[p.v, .int .i64 0] ∧ RatN u' p (q ^ n) (n * (K + 2) + 2)) := by
 refine zzl (args := [r.v, .int .i64 n]) Tryz.func24 rfl Tryz.ntmps24 (rs := [.cell 4 26, .tmp 5]) Tryz.results24 (le_b rfl) (le_b rfl) d ?_
 refine sq9 (zzj 2 ⟨26, r.cs⟩ (zzj 4 ⟨26, zw3⟩ (zza 5 (zI 0) (zzb (zzd (sq9 (zza 7 (zI n) (zza 8 (zB (decide ((n : Int) < 0))) (zqB 9 (show (decide ((n : Int) < 0)) = false from decide_eq_false xq) (zza 10 (zI n) ?_ (hw := w1 2 false 9)))))))))))
 refine zza 11 (zB (decide ((64 : Int) < (n : Int)))) ?_ (hw := w1 2 false 9)
 refine zza 12 (zB (decide ((64 : Int) < (n : Int)))) (zzb (zzt (b := decide ((64 : Int) < (n : Int))) xj (fun hb => ?_) (fun hb => ?_)))
 ·exact absurd hb (by rw [show (decide ((64 : Int) < (n : Int))) = false from decide_eq_false xq]; decide)
 clear hb
 refine zzr (zzo ?_)
 refine sq9 (zzg 14 30 _ fun _ _ am ag => Post.mono (k_rqOf ag (z := 1) xq xq) ?_)
 rintro _ aj an ⟨ac, rfl, ap⟩
 refine zzj 6 ⟨26, zw3⟩ (zzi ⟨26, ac.cs⟩ ty26 ?_)
 refine zzb (zzd (zzs (zym (I := fun af S' u' => ∃ (m : Nat) (i : Nat) (y : RL), (af = m) ∧ (m + i = n) ∧ (m ≤ n) ∧ (S' = St.of 23 [(1, zI m), (2, .adr 2 0), (4, .adr 4 0), (6, .adr 6 0)] [(2, ⟨26, r.cs⟩), (4, ⟨26, zw3⟩), (6, ⟨26, y.cs⟩)]) ∧ (Ext aj u') ∧ (RatN u' y (q ^ i) (i * (K + 2) + 2))) (fun m S u1 u2 e h => by obtain ⟨m, i, y, hm, p0, p1, hS, hE, f0⟩ := h; exact ⟨m, i, y, hm, p0, p1, hS, hE.trans e, f0.ext e⟩) _ yz ⟨n, 0, ac, rfl, rfl, xq, rfl, (Ext.refl _), (by rw [Rat.pow_zero]; exact RatN.more ap xq)⟩ ?_)))
 rintro af _ u18 ⟨m, i, y, ai, hmi, hmn, rfl, ae, f0⟩
 have hsi : i * (K + 2) ≤ 64 * (K + 2) := Nat.mul_le_mul_right _ xq
 refine zzd (sq9 (zza 15 (zI m) (zza 16 (zB (decide ((0 : Int) < (m : Int)))) (zzb (zzt (b := decide ((0 : Int) < (m : Int))) xj (fun aa => ?_) (fun aa => ?_))))))
 ·have qhb19 := of_decide_eq_true aa
  refine zzr (zzo ?_)
  refine zzd (zzs (zzf (zzh 19 (.v (y.v)) ty26 zze (zzh 20 (.v (r.v)) ty26 zze (zzg 21 25 _ fun _ _ ab al => Post.mono (k_rqMul al (f0.ext ab).raw (hr.ext (am.t (an.t (ae.trans ab)))) xq xq) ?_)))))
  rintro _ u23 ao ⟨ad, rfl, aq⟩
  refine zzi ⟨26, ad.cs⟩ ty26 ?_
  refine zzw ?_
  refine zzo (zzf (zza 17 (zI m) (zyp 18 (x := zI (IntKind.i64.wrap ((m : Int) - 1))) (zI (m - 1 : Nat)) (eqI xk) (zza 1 (zI (m - 1 : Nat)) (zzw ?_)))))
  have hsm : (i + 1) * (K + 2) = i * (K + 2) + (K + 2) := Nat.succ_mul _ _
  refine ⟨_, ?_, _, by exact zzu _ _ _, m - 1, i + 1, ad, rfl, xq, xq, rfl, (ae.t (ab.t ao.ext)), (by rw [Rat.pow_succ]; exact RatN.more aq xq)⟩
  omega
 have qhb19 := of_decide_eq_false aa
 refine zyb (zzo (sq9 (zzh 22 (.v (y.v)) ty26 zze (zzi ⟨26, y.cs⟩ ty26 ?_))))
 refine zza 5 (zI 0) (zzb (zzn (ret0 [y.v, .int .i64 0] ⟨zzq ty26 zze, zzp, trivial⟩ fun u26 ah => ?_)))
 have ak : m = 0 := by have h9 := of_decide_eq_false aa; omega
 subst ak
 have hin : i = n := by omega
 subst hin
 exact ⟨y, rfl, RatN.more (f0.ext ah) xq⟩
namespace Nt
def fr1 (d : Int) : Rat := ((1 : Int) : Rat) / (d : Rat)
theorem fr1_pos {d : Int} (h : 0 < d) : 0 < fr1 d := by
 unfold fr1
 rw [Rat.div_def]
 exact Rat.mul_pos (by decide +kernel) (Rat.inv_pos.2 (castI_pos h))
theorem gr_fr {k : Nat} {a d : Int} (h : 0 < d) : gr k a * fr1 d * (u2 k : Rat) = (a : Rat) / (d : Rat) := by
 have h1 := gr_mul k a
 unfold fr1
 have e : gr k a * (((1 : Int) : Rat) / (d : Rat)) * (u2 k : Rat) = gr k a * (u2 k : Rat) * (((1 : Int) : Rat) / (d : Rat)) := by grind
 rw [e, h1, Rat.div_def, Rat.div_def]
 show (a : Rat) * (1 * (d : Rat)⁻¹) = _
 rw [Rat.one_mul]
theorem fl_gr_fr {k : Nat} {a d : Int} (h : 0 < d) : flU k (gr k a * fr1 d) = a / d ∧ ceU k (gr k a * fr1 d) = cdiv a d := ⟨flU_eq h (gr_fr h), ceU_eq h (gr_fr h)⟩
theorem fl_fr {k : Nat} {d : Int} (h : 0 < d) : flU k (fr1 d) = u2 k / d ∧ ceU k (fr1 d) = cdiv (u2 k) d := by
 have e : fr1 d = gr k (u2 k) * fr1 d := by rw [gr_one, Rat.one_mul]
 rw [e]; exact fl_gr_fr h
theorem sum_fr {k : Nat} {c a d : Int} (h : 0 < d) : (gr k c + gr k a * fr1 d) * (u2 k : Rat) = ((c * d + a : Int) : Rat) / (d : Rat) := by
 rw [Rat.add_mul, gr_fr h, gr_mul, Rat.intCast_add, Rat.intCast_mul]
 have := castI_pos h
 have h' : (d : Rat) ≠ 0 := by grind
 generalize (d : Rat) = D at *
 grind
theorem fl_sum {k : Nat} {c a d : Int} (h : 0 < d) : flU k (gr k c + gr k a * fr1 d) = c + a / d ∧ ceU k (gr k c + gr k a * fr1 d) = c + cdiv a d := by
 rw [flU_eq h (sum_fr h), ceU_eq h (sum_fr h)]
 constructor
 ·rw [Int.add_comm, Int.add_mul_ediv_right _ _ xq, Int.add_comm]
 unfold cdiv
 rw [show -(c * d + a) = -a + (-c) * d by rw [Int.neg_mul]; omega, Int.add_mul_ediv_right _ _ xq]
 omega
theorem fl_dif {k : Nat} {c a d : Int} (h : 0 < d) : flU k (gr k c - gr k a * fr1 d) = c - cdiv a d ∧ ceU k (gr k c - gr k a * fr1 d) = c - a / d := by
 have e : gr k c - gr k a * fr1 d = gr k c + gr k (-a) * fr1 d := by rw [← gr_neg, Rat.neg_mul, Rat.sub_eq_add_neg]
 have h1 := fl_sum (k := k) (c := c) (a := -a) h
 rw [e, h1.1, h1.2]
 unfold cdiv
 rw [Int.neg_neg]
 omega
section
variable {k j : Nat} {a b c d D : Int}
theorem at_t (hab : a ≤ b) (hD : 0 < D) : lo4 (gr k a * lo (fr1 D) (fr1 D)) (gr k a * hi (fr1 D) (fr1 D)) (gr k b * lo (fr1 D) (fr1 D)) (gr k b * hi (fr1 D) (fr1 D)) = gr k a * fr1 D ∧ hi4 (gr k a * lo (fr1 D) (fr1 D)) (gr k a * hi (fr1 D) (fr1 D)) (gr k b * lo (fr1 D) (fr1 D)) (gr k b * hi (fr1 D) (fr1 D)) = gr k b * fr1 D := by
 rw [lo_self, hi_self]
 exact lo4_pt (gr_mono hab) (Rat.le_of_lt (fr1_pos hD))
theorem at_end (hD : 0 < D) : decide (cmpQ (gr k b * fr1 D) (gr k 1) ≤ 0) = decide (b ≤ D) := by
 rw [cmpQ_le, decide_eq_decide]
 have hU := castI_pos (u2_pos k)
 have hDr := castI_pos hD
 constructor
 ·intro h
  have h1 := Rat.mul_le_mul_of_nonneg_right h (Rat.le_of_lt hU)
  rw [gr_fr hD, gr_mul] at h1
  have h2 := Rat.mul_le_mul_of_nonneg_right h1 (Rat.le_of_lt hDr)
  rw [div_mul_c hDr, ← Rat.intCast_mul, Int.one_mul] at h2
  exact Rat.intCast_le_intCast.1 h2
 intro h
 refine Rat.le_of_mul_le_mul_right (c := (u2 k : Rat)) ?_ hU
 rw [gr_fr hD, gr_mul]
 refine dv_le hDr ?_
 rw [← Rat.intCast_mul, Int.one_mul]
 exact Rat.intCast_le_intCast.2 h
theorem at_o (hb : 0 ≤ b) (hcd : c ≤ d) (hD : 0 < D) : flU k (lo (gr k c) (gr k d) + lo (lo (-(gr k b * fr1 D)) (gr k b * fr1 D)) (hi (-(gr k b * fr1 D)) (gr k b * fr1 D))) = c - cdiv b D ∧ ceU k (hi (gr k c) (gr k d) + hi (lo (-(gr k b * fr1 D)) (gr k b * fr1 D)) (hi (-(gr k b * fr1 D)) (gr k b * fr1 D))) = d + cdiv b D := by
 have h0 : 0 ≤ gr k b * fr1 D := Rat.mul_nonneg (gr_nn hb) (Rat.le_of_lt (fr1_pos hD))
 have e1 := lo_of_le (gr_mono (w := k) hcd)
 have e2 := lo_of_le (show -(gr k b * fr1 D) ≤ gr k b * fr1 D by grind)
 rw [e1.1, e1.2, e2.1, e2.2, e2.1, e2.2, ← Rat.sub_eq_add_neg, (fl_dif hD).1, (fl_sum hD).2]
 exact ⟨rfl, rfl⟩
theorem at_a (hab : a ≤ b) (hcd : c ≤ d) (hD : 0 < D) : flU k (lo (gr k c) (gr k d) + lo (gr k a * fr1 D) (gr k b * fr1 D)) = c + a / D ∧ ceU k (hi (gr k c) (gr k d) + hi (gr k a * fr1 D) (gr k b * fr1 D)) = d + cdiv b D := by
 have e1 := lo_of_le (gr_mono (w := k) hcd)
 have e2 := lo_of_le (Rat.mul_le_mul_of_nonneg_right (gr_mono (w := k) hab) (Rat.le_of_lt (fr1_pos hD)))
 rw [e1.1, e1.2, e2.1, e2.2, (fl_sum hD).1, (fl_sum hD).2]
 exact ⟨rfl, rfl⟩
theorem at_s (hab : a ≤ b) (hcd : c ≤ d) (hD : 0 < D) : flU k (lo (gr k c) (gr k d) - hi (gr k a * fr1 D) (gr k b * fr1 D)) = c - cdiv b D ∧ ceU k (hi (gr k c) (gr k d) - lo (gr k a * fr1 D) (gr k b * fr1 D)) = d - a / D := by
 have e1 := lo_of_le (gr_mono (w := k) hcd)
 have e2 := lo_of_le (Rat.mul_le_mul_of_nonneg_right (gr_mono (w := k) hab) (Rat.le_of_lt (fr1_pos hD)))
 rw [e1.1, e1.2, e2.1, e2.2, (fl_dif hD).1, (fl_dif hD).2]
 exact ⟨rfl, rfl⟩
theorem at_x (hab : a ≤ b) (hD : 0 < D) : flU k (lo4 (gr k a * lo (fr1 D) (fr1 D)) (gr k a * hi (fr1 D) (fr1 D)) (gr k b * lo (fr1 D) (fr1 D)) (gr k b * hi (fr1 D) (fr1 D))) = a / D ∧ ceU k (hi4 (gr k a * lo (fr1 D) (fr1 D)) (gr k a * hi (fr1 D) (fr1 D)) (gr k b * lo (fr1 D) (fr1 D)) (gr k b * hi (fr1 D) (fr1 D))) = cdiv b D := by
 have h := at_t (k := k) hab hD
 rw [h.1, h.2, (fl_gr_fr hD).1, (fl_gr_fr hD).2]
 exact ⟨rfl, rfl⟩
theorem pi_m {m : Nat} (hab : a ≤ b) : lo4 (gr k a * lo ((m : Int) : Rat) ((m : Int) : Rat)) (gr k a * hi ((m : Int) : Rat) ((m : Int) : Rat)) (gr k b * lo ((m : Int) : Rat) ((m : Int) : Rat)) (gr k b * hi ((m : Int) : Rat) ((m : Int) : Rat)) = gr k (a * (m : Int)) ∧ hi4 (gr k a * lo ((m : Int) : Rat) ((m : Int) : Rat)) (gr k a * hi ((m : Int) : Rat) ((m : Int) : Rat)) (gr k b * lo ((m : Int) : Rat) ((m : Int) : Rat)) (gr k b * hi ((m : Int) : Rat) ((m : Int) : Rat)) = gr k (b * (m : Int)) := by
 have h0 : (0 : Rat) ≤ ((m : Int) : Rat) := Rat.intCast_le_intCast.2 (show (0 : Int) ≤ (m : Int) by omega)
 rw [lo_self, hi_self]
 have h := lo4_pt (gr_mono (w := k) hab) h0
 rw [h.1, h.2, Rat.mul_comm, gr_int, Rat.mul_comm, gr_int, Int.mul_comm, Int.mul_comm b]
 exact ⟨rfl, rfl⟩
end
theorem sq_of_nn {x y : Rat} (h0 : 0 ≤ x) (h : x ≤ y) (hy : 0 < y) : sql x y = x * x ∧ sqh x y = y * y := by
 have hm := mulm h h h0 h0
 have e := lo_of_le hm
 have e2 := lo_of_le h
 unfold sql sqh sgI
 rw [e.1, e.2, e2.1, e2.2]
 refine ⟨?_, rfl⟩
 by_cases hx : 0 < x
 ·rw [if_pos hx, if_neg xw]
 have : x = 0 := by grind
 subst this
 rw [if_neg hx, if_neg (Rat.not_lt.2 (Rat.le_of_lt hy)), if_pos rfl, Rat.zero_mul]
section
variable {k j : Nat} {tl th ql qh c d z : Int}
theorem cs_end : decide (cmpQ (gr k th) (gr k 1) ≤ 0) = decide (th ≤ 1) := by rw [cmpQ_le, decide_eq_decide]; exact gr_le
theorem cs_o (ht : 0 ≤ th) (hcd : c ≤ d) : lo (gr k c) (gr k d) + lo (lo (-gr k th) (gr k th)) (hi (-gr k th) (gr k th)) = gr k (c - th) ∧ hi (gr k c) (gr k d) + hi (lo (-gr k th) (gr k th)) (hi (-gr k th) (gr k th)) = gr k (d + th) := by
 have e1 := lo_of_le (gr_mono (w := k) hcd)
 have e2 := lo_of_le (show -gr k th ≤ gr k th by rw [gr_neg]; exact gr_mono xq)
 rw [e1.1, e1.2, e2.1, e2.2, e2.1, e2.2, ← Rat.sub_eq_add_neg, gr_sub, gr_add]
 exact ⟨rfl, rfl⟩
theorem cs_a (ht : tl ≤ th) (hcd : c ≤ d) : lo (gr k c) (gr k d) + lo (gr k tl) (gr k th) = gr k (c + tl) ∧ hi (gr k c) (gr k d) + hi (gr k tl) (gr k th) = gr k (d + th) := by
 have e1 := lo_of_le (gr_mono (w := k) hcd)
 have e2 := lo_of_le (gr_mono (w := k) ht)
 rw [e1.1, e1.2, e2.1, e2.2, gr_add, gr_add]
 exact ⟨rfl, rfl⟩
theorem cs_s (ht : tl ≤ th) (hcd : c ≤ d) : lo (gr k c) (gr k d) - hi (gr k tl) (gr k th) = gr k (c - th) ∧ hi (gr k c) (gr k d) - lo (gr k tl) (gr k th) = gr k (d - tl) := by
 have e1 := lo_of_le (gr_mono (w := k) hcd)
 have e2 := lo_of_le (gr_mono (w := k) ht)
 rw [e1.1, e1.2, e2.1, e2.2, gr_sub, gr_sub]
 exact ⟨rfl, rfl⟩
theorem grr_fr {x y D : Int} (hD : 0 < D) : gr k x * gr k y * fr1 D * (u2 k : Rat) = ((x * y : Int) : Rat) / ((u2 k * D : Int) : Rat) := by
 have a := castI_pos (u2_pos k)
 have b := castI_pos hD
 unfold gr fr1
 rw [Rat.intCast_mul, Rat.intCast_mul]
 have a' : (u2 k : Rat) ≠ 0 := by grind
 have b' : (D : Rat) ≠ 0 := by grind
 have e : ((1 : Int) : Rat) = 1 := rfl
 rw [e]
 generalize (u2 k : Rat) = p at *
 generalize (D : Rat) = q at *
 grind
theorem cs_t (h0 : 0 ≤ tl) (ht : tl ≤ th) (q0 : 0 ≤ ql) (hq : ql ≤ qh) {F : Rat} (hF : F = fr1 (coD j)) :
  flU k (lo4 (lo4 (gr k tl * gr k ql) (gr k tl * gr k qh) (gr k th * gr k ql) (gr k th * gr k qh) * lo F F) (lo4 (gr k tl * gr k ql) (gr k tl * gr k qh) (gr k th * gr k ql) (gr k th * gr k qh) * hi F F) (hi4 (gr k tl * gr k ql) (gr k tl * gr k qh) (gr k th * gr k ql) (gr k th * gr k qh) * lo F F) (hi4 (gr k tl * gr k ql) (gr k tl * gr k qh) (gr k th * gr k ql) (gr k th * gr k qh) * hi F F)) = csL k j tl ql ∧
  ceU k (hi4 (lo4 (gr k tl * gr k ql) (gr k tl * gr k qh) (gr k th * gr k ql) (gr k th * gr k qh) * lo F F) (lo4 (gr k tl * gr k ql) (gr k tl * gr k qh) (gr k th * gr k ql) (gr k th * gr k qh) * hi F F) (hi4 (gr k tl * gr k ql) (gr k tl * gr k qh) (gr k th * gr k ql) (gr k th * gr k qh) * lo F F) (hi4 (gr k tl * gr k ql) (gr k tl * gr k qh) (gr k th * gr k ql) (gr k th * gr k qh) * hi F F)) = csH k j th qh := by
 have hD := coD_pos j
 have hU := u2_pos k
 have e1 := lo4_nn (gr_mono (w := k) ht) (gr_mono (w := k) hq) (gr_nn h0) (gr_nn q0)
 have hm := mulm (gr_mono (w := k) ht) (gr_mono (w := k) hq) (gr_nn h0) (gr_nn q0)
 have hf := fr1_pos (d := coD j) xq
 rw [hF, lo_self, hi_self, e1.1, e1.2, (lo4_pt hm (Rat.le_of_lt hf)).1, (lo4_pt hm (Rat.le_of_lt hf)).2]
 have hUD : 0 < u2 k * coD j := Int.mul_pos hU xq
 rw [flU_eq hUD (grr_fr xq), ceU_eq hUD (grr_fr xq)]
 unfold csL csH
 rw [cdiv_cdiv hU xq, Int.ediv_ediv_of_nonneg xq]
 exact ⟨rfl, rfl⟩
theorem coD_mulR (h : j ≤ 1000) : IntKind.i64.wrap (((2 * j + 1 : Nat) : Int) * ((2 * j + 2 : Nat) : Int)) = coD j ∧ coD j ≤ 10000000 := by
 have h1 := coD_mul h
 have e : ((2 * j + 1 : Nat) : Int) * ((2 * j + 2 : Nat) : Int) = ((2 * j + 2 : Nat) : Int) * ((2 * j + 2 - 1 : Nat) : Int) := by
  rw [show 2 * j + 2 - 1 = 2 * j + 1 by omega, Int.mul_comm]
 rw [e]; exact h1
theorem tight_hi : (mkRat z 1 + ((1 : Int) : Rat)) / (((2 ^ k : Nat) : Int) : Rat) = gr k (z + 1) := by
 rw [mk_one, ← Rat.intCast_add]; rfl
theorem tight_lo : mkRat z 1 / (((2 ^ k : Nat) : Int) : Rat) = gr k z := by rw [mk_one]; rfl
end
theorem gr_rs {k : Nat} {z : Int} {L : Nat} (hz : dl z.natAbs ≤ L) (hk : k < 32 * L) : rs (gr k z) ≤ L := by
 have e : gr k z = mkRat z (2 ^ k) := by unfold gr; rw [Rat.mkRat_eq_div]; rfl
 rw [e]
 refine rs_mk hz ?_ xq
 have h := dl_u2 (z := u2 k) (L := L) (b := k) (by have := u2_pos k; omega) (Int.le_refl _) hk
 have e2 : (u2 k).natAbs = 2 ^ k := Int.natAbs_natCast _
 rwa [e2] at h
end Nt
theorem RatN.limG {u : World} {r : RL} {z : Int} {k K : Nat} (h : RatN u r (Nt.gr k z) K) (h0 : -(Nt.u2 1000) ≤ z) (h1 : z ≤ Nt.u2 1000) (hk : k ≤ 800) : RatN u r (Nt.gr k z) 40 := h.fit (Nt.gr_rs (Nt.dl_u2 h0 h1 xw) xq)
set_option maxHeartbeats 1000000 in
theorem k_wide {u w : World} {a1 a2 : RL} {x1 x2 : Rat} {K k : Nat} (d : Dat u w) (ha1 : RatV u a1 x1 K) (ha2 : RatV u a2 x2 K) (hk : k ≤ 800) (hK : K ≤ 100000) : Calls Tryz.prog 187 #[IV a1 a2, .int .i64 (k : Int)] w (Post u w fun v u' => ∃ r1 r2 : RL, v = IV r1 r2 ∧ RatN u' r1 (Nt.gr k (Nt.flU k x1)) (K + 70) ∧ RatN u' r2 (Nt.gr k (Nt.ceU k x2)) (K + 70)) := by
 refine zzl (args := [.agg #[.bool a1.s, a1.m.v, a1.d.v, .bool a2.s, a2.m.v, a2.d.v], .int .i64 k]) Tryz.func187 rfl Tryz.ntmps187 (rs := [.cell 4 32]) Tryz.results187 (le_b rfl) (le_b rfl) d ?_
 refine sq9 (zzj 2 ⟨32, a1.cs ++ a2.cs⟩ (zzj 4 ⟨32, zw6⟩ (zzb (sq9 (zza 8 (zI k) (zzg 9 27 _ fun _ _ aD aY => Post.mono (k_unit (k := k) aY xq) ?_))))))
 rintro _ u14 aC ⟨ah, rfl, av⟩
 refine zzj 5 ⟨26, zw3⟩ (zzi ⟨26, ah.cs⟩ ty26 ?_)
 refine zzb (sq9 (zza 10 (.adr 2 0) (zzh 11 (.v (a1.v)) ty26 zze (zzh 12 (.v (ah.v)) ty26 zze (zzg 13 25 _ fun _ _ ae aV => Post.mono (k_rqMul aV (ha1.ext (aD.t (aC.t ae))) (av.ext ae).raw xq xq) ?_)))))
 rintro _ u20 ar ⟨r18, rfl, aM⟩
 refine zzg 14 87 _ fun _ _ al aK => Post.mono (k_floor aK (aM.ext al).raw xq) ?_
 rintro _ u26 aq ⟨ad, rfl, aE⟩
 refine zxw 15 ⟨104, [.int .u32 1]⟩ 1 (fun aw u30 ai aH => ?_)
 refine zza 16 (.v (.agg #[.bool ad.s, ad.m.v, .slice (some ⟨aw, 0, none⟩) 1 1])) (zzj 6 ⟨26, zw3⟩ (zzi ⟨26, ad.cs ++ [.slice (some ⟨aw, 0, none⟩) 1 1]⟩ ty26 ?_))
 refine zzb (sq9 (zza 17 (.adr 2 3) (zzh 18 (.v (a2.v)) ty26 zze (zzh 19 (.v (ah.v)) ty26 zze (zzg 20 25 _ fun _ _ ac aG => Post.mono (k_rqMul aG (ha2.ext (aD.t (aC.t (ae.t (ar.t (al.t (aq.t (ai.trans ac)))))))) (av.ext (ae.t (ar.t (al.t (aq.t (ai.trans ac)))))).raw xq xq) ?_)))))
 rintro _ u36 an ⟨r34, rfl, aJ⟩
 refine zzg 21 39 _ fun _ _ ag aT => Post.mono (k_rqNeg aT (aJ.ext ag).raw xq) ?_
 rintro _ u42 au ⟨r40, rfl, aS⟩
 refine zzg 22 87 _ fun _ _ am aL => Post.mono (k_floor aL (aS.ext am).raw xq) ?_
 rintro _ u48 ap ⟨ax, rfl, aU⟩
 refine zxw 23 ⟨104, [.int .u32 1]⟩ 1 (fun aW u52 ak aQ => ?_)
 refine zza 24 (.v (.agg #[.bool ax.s, ax.m.v, .slice (some ⟨aW, 0, none⟩) 1 1])) (zzg 25 39 _ fun _ _ af aX => Post.mono (k_rqNeg aX (rat_mk2 (s := ax.s) (aU.ext (ak.trans af)).raw ((one_data aQ).ext af).raw) xq) ?_)
 rintro _ u58 ao ⟨aA, rfl, aN⟩
 refine zzj 7 ⟨26, zw3⟩ (zzi ⟨26, aA.cs⟩ ty26 ?_)
 refine zzb (zzd (zzy [0, 0, 3, 0, 0, 31, 63, 127] [(0, []), (1, []), (3, []), (4, []), (2, []), (5, []), (6, []), (7, [])] xj xj (zzh 26 (.v (.agg #[.bool ad.s, ad.m.v, .slice (some ⟨aw, 0, none⟩) 1 1])) ty26 zze (zzh 27 (.v (ah.v)) ty26 zze (zzh 29 (.v (aA.v)) ty26 zze (zzh 30 (.v (ah.v)) ty26 zze (zzg 28 88 _ fun _ _ aj aR => Post.mono (k_rqOver aR (rat_mk2 (s := ad.s) (aE.ext (ai.t (ac.t (an.t (ag.t (au.t (am.t (ap.t (ak.t (af.t (ao.t aj))))))))))).raw ((one_data aH).ext (ac.t (an.t (ag.t (au.t (am.t (ap.t (ak.t (af.t (ao.t aj)))))))))).raw) (av.ext (ae.t (ar.t (al.t (aq.t (ai.t (ac.t (an.t (ag.t (au.t (am.t (ap.t (ak.t (af.t (ao.t aj))))))))))))))).raw xq xq) ?_)))))))
 rintro _ u64 aB ⟨ab, rfl, aO⟩
 refine zzg 31 88 _ fun _ _ ay aI => Post.mono (k_rqOver aI (aN.ext (aj.t (aB.t ay))).raw (av.ext (ae.t (ar.t (al.t (aq.t (ai.t (ac.t (an.t (ag.t (au.t (am.t (ap.t (ak.t (af.t (ao.t (aj.t (aB.t ay))))))))))))))))).raw xq xq) ?_
 rintro _ u70 aF ⟨aa, rfl, aP⟩
 refine zza 32 (.v (.agg #[.bool ab.s, ab.m.v, ab.d.v, .bool aa.s, aa.m.v, aa.d.v])) (zzi ⟨32, ab.cs ++ aa.cs⟩ ty32 ?_)
 refine zzc 33 [(4, .adr 4 0)] [(4, ⟨32, ab.cs ++ aa.cs⟩)] (zzn (ret0 [.agg #[.bool ab.s, ab.m.v, ab.d.v, .bool aa.s, aa.m.v, aa.d.v]] ⟨zzq ty32 zze, trivial⟩ fun u73 az => ?_))
 refine ⟨ab, aa, rfl, RatN.more (K := ((max (max ((K + (k / 32 + 2) + 1) + 1) 1) 1) + (k / 32 + 2) + 2)) ?_ xq, RatN.more (K := ((max (max ((K + (k / 32 + 2) + 1) + 1) 1) 1) + (k / 32 + 2) + 2)) ?_ xq⟩
 ·have h9 := (aO.ext (ay.t (aF.t az)))
  rw [Nt.mk_one] at h9
  exact h9
 have h9 := (aP.ext az)
 rw [Nt.mk_one, ← Rat.intCast_neg] at h9
 exact h9
set_option maxHeartbeats 4000000 in
theorem k_atan {u w : World} {n k : Nat} (d : Dat u w) (hn : 2 ≤ n) (hn2 : n ≤ 1000) (hk : k ≤ 800) : Calls Tryz.prog 185 #[.int .i64 (n : Int), .int .i64 (k : Int)] w (Post u w fun v u' => ∃ (r1 r2 : RL) (a b : Int), v = IV r1 r2 ∧ RatN u' r1 (Nt.gr k a) 40 ∧ RatN u' r2 (Nt.gr k b) 40 ∧ Nt.AtR n k a b) := by
 have hN2 : 4 ≤ n * n := Nat.mul_le_mul hn hn
 have hN3 : n * n ≤ 1000000 := Nat.mul_le_mul hn2 hn2
 have hbig := Nt.big hk
 have hu2 := Nt.u2_pos k
 refine zzl (args := [.int .i64 n, .int .i64 k]) Tryz.func185 rfl Tryz.ntmps185 (rs := [.cell 4 32]) Tryz.results185 (le_b rfl) (le_b rfl) d ?_
 refine sq9 (zzj 4 ⟨32, zw6⟩ (zzb (sq9 (zzg 11 30 _ fun _ _ _ c8 => Post.mono (k_rqOf c8 (z := 0) xq xq) ?_))))
 rintro _ u14 g15 ⟨r12, rfl, dy⟩
 refine zzg 12 30 _ fun _ _ cJ dk => Post.mono (k_rqOf dk (z := 0) xq xq) ?_
 rintro _ u20 cN ⟨r18, rfl, di⟩
 refine zzg 13 38 _ fun _ _ ct ds => Post.mono (k_r4Make ds (dy.ext (cJ.t (cN.t ct))).raw (di.ext ct).raw xq) ?_
 rintro _ u28 g29 ⟨ca, bD, rfl, cV, c4⟩
 refine zzj 5 ⟨32, zw6⟩ (zzi ⟨32, ca.cs ++ bD.cs⟩ ty32 ?_)
 refine zzb (sq9 (zza 14 (zI n) (zzg 15 75 _ fun _ _ cy dn => Post.mono (k_rqFrac dn (a := 1) (b := (n : Int)) xq xq xq xq) ?_)))
 rintro _ u34 cw ⟨r32, rfl, cF⟩
 refine zza 16 (zI n) (zzg 17 75 _ fun _ _ cj dB => Post.mono (k_rqFrac dB (a := 1) (b := (n : Int)) xq xq xq xq) ?_)
 rintro _ u40 bH ⟨r38, rfl, c9⟩
 refine zzg 18 38 _ fun _ _ br c7 => Post.mono (k_r4Make c7 (cF.ext (cj.t (bH.t br))).raw (c9.ext br).raw xq) ?_
 rintro _ u48 cx ⟨bw, bq, rfl, dw, dx⟩
 refine zzj 6 ⟨32, zw6⟩ (zzi ⟨32, bw.cs ++ bq.cs⟩ ty32 ?_)
 refine zzb (sq9 (zzh 19 (.v (.agg #[.bool bw.s, bw.m.v, bw.d.v, .bool bq.s, bq.m.v, bq.d.v])) ty32 zze (zza 20 (zI k) (zzg 21 187 _ fun _ _ bs dz => Post.mono (k_wide (k := k) dz (dw.ext bs).raw (dx.ext bs).raw xq xq) ?_))))
 rintro _ u56 cv ⟨bI, ck, rfl, cH, cO⟩
 refine zzi ⟨32, bI.cs ++ ck.cs⟩ ty32 ?_
 refine zzb (sq9 (zza 22 (zI n) (zza 23 (zI n) (zyp 24 (x := zI (IntKind.i64.wrap ((n : Int) * (n : Int)))) (zI (n * n : Nat)) (eqI (by rw [← Int.natCast_mul]; exact IntWalk.i64_in _ xq)) (zzg 25 75 _ fun _ _ bv dg => Post.mono (k_rqFrac dg (a := 1) (b := ((n * n : Nat) : Int)) xq xq xq xq) ?_)))))
 rintro _ u62 bx ⟨r60, rfl, cK⟩
 refine zza 26 (zI n) (zza 27 (zI n) (zyp 28 (x := zI (IntKind.i64.wrap ((n : Int) * (n : Int)))) (zI (n * n : Nat)) (eqI (by rw [← Int.natCast_mul]; exact IntWalk.i64_in _ xq)) (zzg 29 75 _ fun _ _ bh dm => Post.mono (k_rqFrac dm (a := 1) (b := ((n * n : Nat) : Int)) xq xq xq xq) ?_)))
 rintro _ u68 bo ⟨r66, rfl, cY⟩
 refine zzg 30 38 _ fun _ _ a8 cM => Post.mono (k_r4Make cM (cK.ext (bh.t (bo.t a8))).raw (cY.ext a8).raw xq) ?_
 rintro _ u76 bt ⟨aJ, aR, rfl, cz, cr⟩
 refine zzj 7 ⟨32, zw6⟩ (zzi ⟨32, aJ.cs ++ aR.cs⟩ ty32 ?_)
 refine zzb (sq9 (zzg 31 30 _ fun _ _ aW c6 => Post.mono (k_rqOf c6 (z := 1) xq xq) ?_))
 rintro _ u82 aU ⟨r80, rfl, cZ⟩
 refine zza 32 (zI k) (zzg 33 27 _ fun _ _ aP dv => Post.mono (k_unit (k := k) dv xq) ?_)
 rintro _ u88 aS ⟨r86, rfl, cQ⟩
 refine zzg 34 88 _ fun _ _ aI cB => Post.mono (k_rqOver cB (cZ.ext (aP.t (aS.t aI))).raw (cQ.ext aI).raw xq xq) ?_
 rintro _ cI aX ⟨bu, rfl, dt⟩
 refine zzj 8 ⟨26, zw3⟩ (zzi ⟨26, bu.cs⟩ ty26 ?_)
 refine zzc 80 [(1, zI k), (4, .adr 4 0), (5, .adr 5 0), (6, .adr 6 0), (7, .adr 7 0), (8, .adr 8 0)] [(4, ⟨32, zw6⟩), (5, ⟨32, ca.cs ++ bD.cs⟩), (6, ⟨32, bI.cs ++ ck.cs⟩), (7, ⟨32, aJ.cs ++ aR.cs⟩), (8, ⟨26, bu.cs⟩)] (sq9 (zza 9 (zI 0) (zzb (zzs (zym (I := fun cu S' u' => ∃ (j : Nat) (x1 : RL) (x2 : RL) (y1 : RL) (y2 : RL) (a : Int) (b : Int) (cc : Int) (dd : Int), (cu = b.toNat) ∧ (Nt.AtF n k j a b cc dd) ∧ (S' = St.of 80 [(1, zI k), (4, .adr 4 0), (5, .adr 5 0), (6, .adr 6 0), (7, .adr 7 0), (8, .adr 8 0), (9, zI j)] [(4, ⟨32, zw6⟩), (5, ⟨32, y1.cs ++ y2.cs⟩), (6, ⟨32, x1.cs ++ x2.cs⟩), (7, ⟨32, aJ.cs ++ aR.cs⟩), (8, ⟨26, bu.cs⟩)]) ∧ (Ext cI u') ∧ (RatN u' x1 (Nt.gr k a) 40) ∧ (RatN u' x2 (Nt.gr k b) 40) ∧ (RatN u' y1 (Nt.gr k cc) 40) ∧ (RatN u' y2 (Nt.gr k dd) 40)) (fun m S u1 u2 e h => by obtain ⟨j, x1, x2, y1, y2, a, b, cc, dd, hm, p0, hS, hE, f0, f1, f2, f3⟩ := h; exact ⟨j, x1, x2, y1, y2, a, b, cc, dd, hm, p0, hS, hE.trans e, f0.ext e, f1.ext e, f2.ext e, f3.ext e⟩) _ yz ⟨0, bI, ck, ca, bD, (Nt.u2 k / (n : Int)), (Nt.cdiv (Nt.u2 k) (n : Int)), 0, 0, rfl, (Nt.AtF.start xq), rfl, (Ext.refl _), (RatN.limG (by have h9 := (cH.ext (bv.t (bx.t (bh.t (bo.t (a8.t (bt.t (aW.t (aU.t (aP.t (aS.t (aI.t aX.ext)))))))))))); rw [Nt.lo_self, show (((1 : Int) : Rat) / ((n : Int) : Rat)) = Nt.fr1 (n : Int) from rfl, (Nt.fl_fr xq).1] at h9; exact h9) (by have h8 := (Nt.AtF.start (n := n) (w := k) xq).bd xq; have h7 := (Nt.AtF.start (n := n) (w := k) xq).ab; have h6 := (Nt.AtF.start (n := n) (w := k) xq).p0; omega) (by have h8 := (Nt.AtF.start (n := n) (w := k) xq).bd xq; have h7 := (Nt.AtF.start (n := n) (w := k) xq).ab; have h6 := (Nt.AtF.start (n := n) (w := k) xq).p0; omega) hk), (RatN.limG (by have h9 := (cO.ext (bv.t (bx.t (bh.t (bo.t (a8.t (bt.t (aW.t (aU.t (aP.t (aS.t (aI.t aX.ext)))))))))))); rw [Nt.hi_self, show (((1 : Int) : Rat) / ((n : Int) : Rat)) = Nt.fr1 (n : Int) from rfl, (Nt.fl_fr xq).2] at h9; exact h9) (by have h8 := (Nt.AtF.start (n := n) (w := k) xq).bd xq; have h7 := (Nt.AtF.start (n := n) (w := k) xq).ab; have h6 := (Nt.AtF.start (n := n) (w := k) xq).p0; omega) (by have h8 := (Nt.AtF.start (n := n) (w := k) xq).bd xq; have h7 := (Nt.AtF.start (n := n) (w := k) xq).ab; have h6 := (Nt.AtF.start (n := n) (w := k) xq).p0; omega) hk), (by have h9 := (cV.ext (cy.t (cw.t (cj.t (bH.t (br.t (cx.t (bs.t (cv.t (bv.t (bx.t (bh.t (bo.t (a8.t (bt.t (aW.t (aU.t (aP.t (aS.t (aI.t aX.ext)))))))))))))))))))); rw [Nt.lo_self, show ((0 : Int) : Rat) = Nt.gr k 0 from (Nt.gr_zero k).symm] at h9; exact RatN.more h9 xq), (by have h9 := (c4.ext (cy.t (cw.t (cj.t (bH.t (br.t (cx.t (bs.t (cv.t (bv.t (bx.t (bh.t (bo.t (a8.t (bt.t (aW.t (aU.t (aP.t (aS.t (aI.t aX.ext)))))))))))))))))))); rw [Nt.hi_self, show ((0 : Int) : Rat) = Nt.gr k 0 from (Nt.gr_zero k).symm] at h9; exact RatN.more h9 xq)⟩ ?_)))))
 rintro cu _ u97 ⟨j, x1, x2, y1, y2, a, b, cc, dd, cT, hI, rfl, a2, f0, f1, f2, f3⟩
 have hjw := hI.kw
 have hbd := hI.bd xq
 have hab := hI.ab
 have hcd := hI.cd
 have hp0 := hI.p0
 have hp1 := hI.p1
 refine zzd (zzs (zzd (zzy [0, 0, 2, 6, 14, 0, 32, 96, 254, 510, 1023, 0, 4095] [(0, []), (1, []), (2, []), (3, []), (5, []), (6, []), (7, []), (11, []), (4, []), (8, []), (9, []), (10, []), (12, [])] xj xj (zzh 37 (.v (.agg #[.bool x1.s, x1.m.v, x1.d.v, .bool x2.s, x2.m.v, x2.d.v])) ty32 zze (zza 38 (zI j) (zyp 39 (x := zI (IntKind.i64.wrap ((2 : Int) * (j : Int)))) (zI (2 * j : Nat)) (eqI xk) (zyp 40 (x := zI (IntKind.i64.wrap (((2 * j : Nat) : Int) + 1))) (zI (((2 * j) + 1 : Nat) : Int)) (eqI xk) (zza 42 (zI j) (zyp 43 (x := zI (IntKind.i64.wrap ((2 : Int) * (j : Int)))) (zI (2 * j : Nat)) (eqI xk) (zyp 44 (x := zI (IntKind.i64.wrap (((2 * j : Nat) : Int) + 1))) (zI (((2 * j) + 1 : Nat) : Int)) (eqI xk) (zzj 10 ⟨32, zw6⟩ ?_)))))))))))
 refine zzg 41 75 _ fun _ _ am cP => Post.mono (k_rqFrac cP (a := 1) (b := (((2 * j) + 1 : Nat) : Int)) xq xq xq xq) ?_
 rintro _ da ai ⟨r99, rfl, bZ⟩
 refine zzg 45 75 _ fun _ _ ag bJ => Post.mono (k_rqFrac bJ (a := 1) (b := (((2 * j) + 1 : Nat) : Int)) xq xq xq xq) ?_
 rintro _ cD af ⟨c2, rfl, bM⟩
 refine zzg 46 38 _ fun _ _ ad bT => Post.mono (k_r4Make bT (bZ.ext (ag.t (af.t ad))).raw (bM.ext ad).raw xq) ?_
 rintro _ dr ah ⟨cU, c0, rfl, bS, b3⟩
 refine zzg 47 68 _ fun _ _ ae b7 => Post.mono (k_r4Mul b7 (f0.ext (am.t (ai.t (ag.t (af.t (ad.t (ah.t ae))))))).raw (f1.ext (am.t (ai.t (ag.t (af.t (ad.t (ah.t ae))))))).raw (bS.ext ae).raw (b3.ext ae).raw xq xq) ?_
 rintro _ bb aj ⟨aq, ak, rfl, b8, bO⟩
 refine zzi ⟨32, aq.cs ++ ak.cs⟩ ty32 ?_
 refine zzb (zzd (zzd ?_))
 have aV : RatN bb aq (Nt.gr k a * (Nt.fr1 ((2 * j + 1 : Nat) : Int))) (40 + 3 + 1) := zRc b8 ((Nt.at_t hab xq).1)
 have ar : RatN bb ak (Nt.gr k b * (Nt.fr1 ((2 * j + 1 : Nat) : Int))) (40 + 3 + 1) := zRc bO ((Nt.at_t hab xq).2)
 refine zzf (zza 48 (.adr 10 3) (zzh 49 (.v (ak.v)) ty26 zze (zzh 50 (.v (bu.v)) ty26 zze (zzg 51 28 _ fun _ _ aa b9 => Post.mono (k_rqCompare b9 (ar.ext aa).raw (dt.ext (a2.t (am.t (ai.t (ag.t (af.t (ad.t (ah.t (ae.t (aj.t aa)))))))))).raw xq xq) ?_))))
 rintro _ df ac rfl
 refine zza 52 (zB (decide ((Nt.cmpQ (Nt.gr k b * (Nt.fr1 ((2 * j + 1 : Nat) : Int))) (((1 : Int) : Rat) / (((2 ^ k : Nat) : Int) : Rat))) ≤ 0))) (zzb (zzt (b := decide ((Nt.cmpQ (Nt.gr k b * (Nt.fr1 ((2 * j + 1 : Nat) : Int))) (((1 : Int) : Rat) / (((2 ^ k : Nat) : Int) : Rat))) ≤ 0)) xj (fun al => ?_) (fun al => ?_)))
 ·have qhb132 := of_decide_eq_true al
  refine zzd (zzy [0, 0, 2, 6, 0, 16, 62, 127, 0, 511, 1023] [(0, []), (1, []), (2, []), (4, []), (5, []), (8, []), (3, []), (6, []), (7, []), (9, []), (10, [])] xj xj (zzh 53 (.v (.agg #[.bool y1.s, y1.m.v, y1.d.v, .bool y2.s, y2.m.v, y2.d.v])) ty32 zze (zza 54 (.adr 10 3) (zzh 55 (.v (ak.v)) ty26 zze (zza 57 (.adr 10 3) (zzh 58 (.v (ak.v)) ty26 zze (zza 61 (zI k) (zzg 56 39 _ fun _ _ aM cl => Post.mono (k_rqNeg cl (ar.ext (aa.t (ac.t aM))).raw xq) ?_))))))))
  rintro _ cC a4 ⟨cW, rfl, b6⟩
  refine zzg 59 38 _ fun _ _ aQ bN => Post.mono (k_r4Make bN (b6.ext aQ).raw (ar.ext (aa.t (ac.t (aM.t (a4.t aQ))))).raw xq) ?_
  rintro _ dp bp ⟨de, cE, rfl, bA, bL⟩
  refine zzg 60 43 _ fun _ _ aT bG => Post.mono (k_r4Add bG (f2.ext (am.t (ai.t (ag.t (af.t (ad.t (ah.t (ae.t (aj.t (aa.t (ac.t (aM.t (a4.t (aQ.t (bp.t aT))))))))))))))).raw (f3.ext (am.t (ai.t (ag.t (af.t (ad.t (ah.t (ae.t (aj.t (aa.t (ac.t (aM.t (a4.t (aQ.t (bp.t aT))))))))))))))).raw (bA.ext aT).raw (bL.ext aT).raw xq xq) ?_
  rintro _ dA cX ⟨du, db, rfl, b2, cq⟩
  refine zzg 62 187 _ fun _ _ ba bP => Post.mono (k_wide (k := k) bP (b2.ext ba).raw (cq.ext ba).raw xq xq) ?_
  rintro _ dj dq ⟨aA, aE, rfl, b0, cn⟩
  refine zzi ⟨32, aA.cs ++ aE.cs⟩ ty32 ?_
  refine zzb (zzn (zzv (zyt (zzv (zys (zyt (ret0 [.agg #[.bool aA.s, aA.m.v, aA.d.v, .bool aE.s, aE.m.v, aE.d.v]] ⟨zzq ty32 zze, trivial⟩ fun c3 a9 => ?_)))))))
  have hle : b ≤ ((2 * j + 1 : Nat) : Int) := by have h9 := al; rw [show (((1 : Int) : Rat) / (((2 ^ k : Nat) : Int) : Rat)) = Nt.gr k 1 from rfl, Nt.at_end xq] at h9; exact of_decide_eq_true h9
  have ho := hI.out xq hle
  have hob := Nt.atR_bd ho xq
  refine ⟨aA, aE, _, _, rfl, RatN.limG (z := (cc - Nt.cdiv b ((2 * j + 1 : Nat) : Int))) (K := ((40 + (40 + 3 + 1) + 2) + 70)) ?_ xq xq hk, RatN.limG (z := (dd + Nt.cdiv b ((2 * j + 1 : Nat) : Int))) (K := ((40 + (40 + 3 + 1) + 2) + 70)) ?_ xq xq hk, ho⟩
  ·have h9 := (b0.ext a9)
   rw [(Nt.at_o xq hcd xq).1] at h9
   exact h9
  have h9 := (cn.ext a9)
  rw [(Nt.at_o xq hcd xq).2] at h9
  exact h9
 have qhb132 := of_decide_eq_false al
 refine zzr (zzo ?_)
 refine zzd (sq9 (zza 63 (zI j) (zza 64 (zI (Int.tmod (j : Int) 2)) (zza 65 (zB ((Int.tmod (j : Int) 2) == 0)) (zzb (zzt (b := (Int.tmod (j : Int) 2) == 0) xj (fun aF => ?_) (fun aF => ?_)))))))
 ·have aw : Int.tmod (j : Int) 2 = (j : Int) % 2 := Int.tmod_eq_emod_of_nonneg xq
  have ao :  j % 2 = 0 := by have h9 := aF; rw [aw] at h9; simp at h9; omega
  refine zzf (zzh 66 (.v (.agg #[.bool y1.s, y1.m.v, y1.d.v, .bool y2.s, y2.m.v, y2.d.v])) ty32 zze (zzh 67 (.v (.agg #[.bool aq.s, aq.m.v, aq.d.v, .bool ak.s, ak.m.v, ak.d.v])) ty32 zze (zzg 68 43 _ fun _ _ an bB => Post.mono (k_r4Add bB (f2.ext (am.t (ai.t (ag.t (af.t (ad.t (ah.t (ae.t (aj.t (aa.t (ac.t an))))))))))).raw (f3.ext (am.t (ai.t (ag.t (af.t (ad.t (ah.t (ae.t (aj.t (aa.t (ac.t an))))))))))).raw (aV.ext (aa.t (ac.t an))).raw (ar.ext (aa.t (ac.t an))).raw xq xq) ?_)))
  rintro _ cS aC ⟨aK, aN, rfl, cb, b4⟩
  refine zzi ⟨32, aK.cs ++ aN.cs⟩ ty32 ?_
  refine zzb (sq9 (zzh 72 (.v (.agg #[.bool aK.s, aK.m.v, aK.d.v, .bool aN.s, aN.m.v, aN.d.v])) ty32 zze (zza 73 (zI k) (zzg 74 187 _ fun _ _ ax b5 => Post.mono (k_wide (k := k) b5 (cb.ext ax).raw (b4.ext ax).raw xq xq) ?_))))
  rintro _ bi aH ⟨a0, a7, rfl, bC, ce⟩
  refine zzi ⟨32, a0.cs ++ a7.cs⟩ ty32 ?_
  refine zzb ?_
  have bj : RatN bi a0 (Nt.gr k (cc + a / ((2 * j + 1 : Nat) : Int))) ((40 + (40 + 3 + 1) + 2) + 70) := zRc bC (by rw [(Nt.at_a (D := ((2 * j + 1 : Nat) : Int)) hab hcd xq).1])
  have bl : RatN bi a7 (Nt.gr k (dd + Nt.cdiv b ((2 * j + 1 : Nat) : Int))) ((40 + (40 + 3 + 1) + 2) + 70) := zRc ce (by rw [(Nt.at_a (D := ((2 * j + 1 : Nat) : Int)) hab hcd xq).2])
  refine zzf (zzh 75 (.v (.agg #[.bool x1.s, x1.m.v, x1.d.v, .bool x2.s, x2.m.v, x2.d.v])) ty32 zze (zzh 76 (.v (.agg #[.bool aJ.s, aJ.m.v, aJ.d.v, .bool aR.s, aR.m.v, aR.d.v])) ty32 zze (zzg 77 68 _ fun _ _ ay ch => Post.mono (k_r4Mul ch (f0.ext (am.t (ai.t (ag.t (af.t (ad.t (ah.t (ae.t (aj.t (aa.t (ac.t (an.t (aC.t (ax.t (aH.t ay))))))))))))))).raw (f1.ext (am.t (ai.t (ag.t (af.t (ad.t (ah.t (ae.t (aj.t (aa.t (ac.t (an.t (aC.t (ax.t (aH.t ay))))))))))))))).raw (cz.ext (aW.t (aU.t (aP.t (aS.t (aI.t (aX.t (a2.t (am.t (ai.t (ag.t (af.t (ad.t (ah.t (ae.t (aj.t (aa.t (ac.t (an.t (aC.t (ax.t (aH.t ay)))))))))))))))))))))).raw (cr.ext (aW.t (aU.t (aP.t (aS.t (aI.t (aX.t (a2.t (am.t (ai.t (ag.t (af.t (ad.t (ah.t (ae.t (aj.t (aa.t (ac.t (an.t (aC.t (ax.t (aH.t ay)))))))))))))))))))))).raw xq xq) ?_)))
  rintro _ dC aY ⟨cG, c5, rfl, bE, bV⟩
  refine zza 78 (zI k) (zzg 79 187 _ fun _ _ aB bF => Post.mono (k_wide (k := k) bF (bE.ext aB).raw (bV.ext aB).raw xq xq) ?_)
  rintro _ cA a1 ⟨be, bf, rfl, bU, bz⟩
  refine zzi ⟨32, be.cs ++ bf.cs⟩ ty32 ?_
  refine zzw ?_
  refine zzo (zzf (zza 35 (zI j) (zyp 36 (x := zI (IntKind.i64.wrap ((j : Int) + 1))) (zI (j + 1 : Nat)) (eqI xk) (zza 9 (zI (j + 1 : Nat)) (zzw ?_)))))
  have hlt : ((2 * j + 1 : Nat) : Int) < b := by have h9 := al; rw [show (((1 : Int) : Rat) / (((2 ^ k : Nat) : Int) : Rat)) = Nt.gr k 1 from rfl, Nt.at_end xq] at h9; have h8 := of_decide_eq_false h9; omega
  have hgo := hI.go hn hlt (.inl ⟨ao, rfl, rfl⟩)
  have hb9 := hgo.1.bd xq
  have ha9 := hgo.1.ab
  have hc9 := hgo.1.cd
  have h09 := hgo.1.p0
  have hm9 := hgo.2
  refine ⟨_, ?_, _, by exact zzu _ _ _, j + 1, be, bf, a0, a7, (a / ((n * n : Nat) : Int)), (Nt.cdiv b ((n * n : Nat) : Int)), (cc + a / ((2 * j + 1 : Nat) : Int)), (dd + Nt.cdiv b ((2 * j + 1 : Nat) : Int)), rfl, hgo.1, rfl, (a2.t (am.t (ai.t (ag.t (af.t (ad.t (ah.t (ae.t (aj.t (aa.t (ac.t (an.t (aC.t (ax.t (aH.t (ay.t (aY.t (aB.t a1.ext)))))))))))))))))), (RatN.limG (by have h9 := bU; rw [show (((1 : Int) : Rat) / ((((n * n : Nat) : Int)) : Rat)) = Nt.fr1 ((n * n : Nat) : Int) from rfl, (Nt.at_x hab xq).1] at h9; exact h9) xq xq hk), (RatN.limG (by have h9 := bz; rw [show (((1 : Int) : Rat) / ((((n * n : Nat) : Int)) : Rat)) = Nt.fr1 ((n * n : Nat) : Int) from rfl, (Nt.at_x hab xq).2] at h9; exact h9) xq xq hk), (RatN.limG (bj.ext (ay.t (aY.t (aB.t a1.ext)))) xq xq hk), (RatN.limG (bl.ext (ay.t (aY.t (aB.t a1.ext)))) xq xq hk)⟩
  omega
 have aw : Int.tmod (j : Int) 2 = (j : Int) % 2 := Int.tmod_eq_emod_of_nonneg xq
 have ao : ¬ j % 2 = 0 := by have h9 := aF; rw [aw] at h9; simp at h9; omega
 refine zzf (zzh 69 (.v (.agg #[.bool y1.s, y1.m.v, y1.d.v, .bool y2.s, y2.m.v, y2.d.v])) ty32 zze (zzh 70 (.v (.agg #[.bool aq.s, aq.m.v, aq.d.v, .bool ak.s, ak.m.v, ak.d.v])) ty32 zze (zzg 71 145 _ fun _ _ ap bR => Post.mono (k_r4Sub bR (f2.ext (am.t (ai.t (ag.t (af.t (ad.t (ah.t (ae.t (aj.t (aa.t (ac.t ap))))))))))).raw (f3.ext (am.t (ai.t (ag.t (af.t (ad.t (ah.t (ae.t (aj.t (aa.t (ac.t ap))))))))))).raw (aV.ext (aa.t (ac.t ap))).raw (ar.ext (aa.t (ac.t ap))).raw xq xq) ?_)))
 rintro _ cR aD ⟨aO, aL, rfl, cf, bK⟩
 refine zzi ⟨32, aO.cs ++ aL.cs⟩ ty32 ?_
 refine zzb (sq9 (zzh 72 (.v (.agg #[.bool aO.s, aO.m.v, aO.d.v, .bool aL.s, aL.m.v, aL.d.v])) ty32 zze (zza 73 (zI k) (zzg 74 187 _ fun _ _ av bX => Post.mono (k_wide (k := k) bX (cf.ext av).raw (bK.ext av).raw xq xq) ?_))))
 rintro _ bc aG ⟨a5, a3, rfl, cp, bQ⟩
 refine zzi ⟨32, a5.cs ++ a3.cs⟩ ty32 ?_
 refine zzb ?_
 have bn : RatN bc a5 (Nt.gr k (cc - Nt.cdiv b ((2 * j + 1 : Nat) : Int))) ((40 + (40 + 3 + 1) + 2) + 70) := zRc cp (by rw [(Nt.at_s (D := ((2 * j + 1 : Nat) : Int)) hab hcd xq).1])
 have bk : RatN bc a3 (Nt.gr k (dd - a / ((2 * j + 1 : Nat) : Int))) ((40 + (40 + 3 + 1) + 2) + 70) := zRc bQ (by rw [(Nt.at_s (D := ((2 * j + 1 : Nat) : Int)) hab hcd xq).2])
 refine zzf (zzh 75 (.v (.agg #[.bool x1.s, x1.m.v, x1.d.v, .bool x2.s, x2.m.v, x2.d.v])) ty32 zze (zzh 76 (.v (.agg #[.bool aJ.s, aJ.m.v, aJ.d.v, .bool aR.s, aR.m.v, aR.d.v])) ty32 zze (zzg 77 68 _ fun _ _ au bY => Post.mono (k_r4Mul bY (f0.ext (am.t (ai.t (ag.t (af.t (ad.t (ah.t (ae.t (aj.t (aa.t (ac.t (ap.t (aD.t (av.t (aG.t au))))))))))))))).raw (f1.ext (am.t (ai.t (ag.t (af.t (ad.t (ah.t (ae.t (aj.t (aa.t (ac.t (ap.t (aD.t (av.t (aG.t au))))))))))))))).raw (cz.ext (aW.t (aU.t (aP.t (aS.t (aI.t (aX.t (a2.t (am.t (ai.t (ag.t (af.t (ad.t (ah.t (ae.t (aj.t (aa.t (ac.t (ap.t (aD.t (av.t (aG.t au)))))))))))))))))))))).raw (cr.ext (aW.t (aU.t (aP.t (aS.t (aI.t (aX.t (a2.t (am.t (ai.t (ag.t (af.t (ad.t (ah.t (ae.t (aj.t (aa.t (ac.t (ap.t (aD.t (av.t (aG.t au)))))))))))))))))))))).raw xq xq) ?_)))
 rintro _ dc a6 ⟨c1, dh, rfl, ci, cm⟩
 refine zza 78 (zI k) (zzg 79 187 _ fun _ _ az cg => Post.mono (k_wide (k := k) cg (ci.ext az).raw (cm.ext az).raw xq xq) ?_)
 rintro _ cL aZ ⟨bm, bg, rfl, b1, bW⟩
 refine zzi ⟨32, bm.cs ++ bg.cs⟩ ty32 ?_
 refine zzw ?_
 refine zzo (zzf (zza 35 (zI j) (zyp 36 (x := zI (IntKind.i64.wrap ((j : Int) + 1))) (zI (j + 1 : Nat)) (eqI xk) (zza 9 (zI (j + 1 : Nat)) (zzw ?_)))))
 have hlt : ((2 * j + 1 : Nat) : Int) < b := by have h9 := al; rw [show (((1 : Int) : Rat) / (((2 ^ k : Nat) : Int) : Rat)) = Nt.gr k 1 from rfl, Nt.at_end xq] at h9; have h8 := of_decide_eq_false h9; omega
 have hgo := hI.go hn hlt (.inr ⟨ao, rfl, rfl⟩)
 have hb9 := hgo.1.bd xq
 have ha9 := hgo.1.ab
 have hc9 := hgo.1.cd
 have h09 := hgo.1.p0
 have hm9 := hgo.2
 refine ⟨_, ?_, _, by exact zzu _ _ _, j + 1, bm, bg, a5, a3, (a / ((n * n : Nat) : Int)), (Nt.cdiv b ((n * n : Nat) : Int)), (cc - Nt.cdiv b ((2 * j + 1 : Nat) : Int)), (dd - a / ((2 * j + 1 : Nat) : Int)), rfl, hgo.1, rfl, (a2.t (am.t (ai.t (ag.t (af.t (ad.t (ah.t (ae.t (aj.t (aa.t (ac.t (ap.t (aD.t (av.t (aG.t (au.t (a6.t (az.t aZ.ext)))))))))))))))))), (RatN.limG (by have h9 := b1; rw [show (((1 : Int) : Rat) / ((((n * n : Nat) : Int)) : Rat)) = Nt.fr1 ((n * n : Nat) : Int) from rfl, (Nt.at_x hab xq).1] at h9; exact h9) xq xq hk), (RatN.limG (by have h9 := bW; rw [show (((1 : Int) : Rat) / ((((n * n : Nat) : Int)) : Rat)) = Nt.fr1 ((n * n : Nat) : Int) from rfl, (Nt.at_x hab xq).2] at h9; exact h9) xq xq hk), (RatN.limG (bn.ext (au.t (a6.t (az.t aZ.ext)))) xq xq hk), (RatN.limG (bk.ext (au.t (a6.t (az.t aZ.ext)))) xq xq hk)⟩
 omega
set_option maxHeartbeats 2000000 in
theorem k_r10pi {u w : World} {k : Nat} (d : Dat u w) (hk0 : 16 ≤ k) (hk : k ≤ 800) : Calls Tryz.prog 104 #[.int .i64 (k : Int)] w (Post u w fun v u' => ∃ (r1 r2 : RL) (a b : Int), v = IV r1 r2 ∧ RatN u' r1 (Nt.gr k a) 40 ∧ RatN u' r2 (Nt.gr k b) 40 ∧ Nt.PiR k a b) := by
 have hbig := Nt.big hk
 have hu2 := Nt.u2_pos k
 refine zzl (args := [.int .i64 k]) Tryz.func104 rfl Tryz.ntmps104 (rs := [.cell 2 32]) Tryz.results104 (le_b rfl) (le_b rfl) d ?_
 refine sq9 (zzj 2 ⟨32, zw6⟩ (zzb (sq9 (zza 5 (zI k) (zzg 6 185 _ fun _ _ _ a8 => Post.mono (k_atan a8 (n := 5) (k := k) xq xq xq) ?_)))))
 rintro _ u13 g14 ⟨bc, aU, ad, aj, rfl, aH, aA, an⟩
 refine zzg 7 30 _ fun _ _ aK bj => Post.mono (k_rqOf bj (z := 16) xq xq) ?_
 rintro _ u19 aM ⟨r17, rfl, a5⟩
 refine zzg 8 30 _ fun _ _ aB aS => Post.mono (k_rqOf aS (z := 16) xq xq) ?_
 rintro _ u25 az ⟨r23, rfl, bg⟩
 refine zzg 9 38 _ fun _ _ aq a3 => Post.mono (k_r4Make a3 (a5.ext (aB.t (az.t aq))).raw (bg.ext aq).raw xq) ?_
 rintro _ u33 aN ⟨r29, r31, rfl, bi, a1⟩
 refine zzg 10 68 _ fun _ _ av be => Post.mono (k_r4Mul be (aH.ext (aK.t (aM.t (aB.t (az.t (aq.t (aN.t av))))))).raw (aA.ext (aK.t (aM.t (aB.t (az.t (aq.t (aN.t av))))))).raw (bi.ext av).raw (a1.ext av).raw xq xq) ?_
 rintro _ aI g42 ⟨ai, ap, rfl, a7, aV⟩
 refine zzj 3 ⟨32, zw6⟩ (zzi ⟨32, ai.cs ++ ap.cs⟩ ty32 ?_)
 refine zzb (zzd ?_)
 have hab44 := (Nt.atR_bd an xq).2.2.2.2
 have ay : RatN aI ai (Nt.gr k (ad * 16)) (40 + 2 + 1) := zRc a7 ((Nt.pi_m (m := 16) hab44).1)
 have aD : RatN aI ap (Nt.gr k (aj * 16)) (40 + 2 + 1) := zRc aV ((Nt.pi_m (m := 16) hab44).2)
 refine zzf (zza 11 (zI k) (zzg 12 185 _ fun _ _ aJ aZ => Post.mono (k_atan aZ (n := 239) (k := k) xq xq xq) ?_))
 rintro _ u49 aP ⟨a6, bk, ag, ao, rfl, aG, aF, ac⟩
 refine zzg 13 30 _ fun _ _ ax a4 => Post.mono (k_rqOf a4 (z := 4) xq xq) ?_
 rintro _ u55 ar ⟨r53, rfl, bh⟩
 refine zzg 14 30 _ fun _ _ af a2 => Post.mono (k_rqOf a2 (z := 4) xq xq) ?_
 rintro _ u61 am ⟨r59, rfl, a9⟩
 refine zzg 15 38 _ fun _ _ ab aX => Post.mono (k_r4Make aX (bh.ext (af.t (am.t ab))).raw (a9.ext ab).raw xq) ?_
 rintro _ u69 au ⟨r65, r67, rfl, a0, bf⟩
 refine zzg 16 68 _ fun _ _ aa ba => Post.mono (k_r4Mul ba (aG.ext (ax.t (ar.t (af.t (am.t (ab.t (au.t aa))))))).raw (aF.ext (ax.t (ar.t (af.t (am.t (ab.t (au.t aa))))))).raw (a0.ext aa).raw (bf.ext aa).raw xq xq) ?_
 rintro _ aO aL ⟨ak, al, rfl, aR, bb⟩
 refine zzj 4 ⟨32, zw6⟩ (zzi ⟨32, ak.cs ++ al.cs⟩ ty32 ?_)
 refine zzb (zzd ?_)
 have hab80 := (Nt.atR_bd ac xq).2.2.2.2
 have aC : RatN aO ak (Nt.gr k (ag * 4)) (40 + 2 + 1) := zRc aR ((Nt.pi_m (m := 4) hab80).1)
 have aE : RatN aO al (Nt.gr k (ao * 4)) (40 + 2 + 1) := zRc bb ((Nt.pi_m (m := 4) hab80).2)
 refine zzf (zzh 17 (.v (.agg #[.bool ai.s, ai.m.v, ai.d.v, .bool ap.s, ap.m.v, ap.d.v])) ty32 zze (zzh 18 (.v (.agg #[.bool ak.s, ak.m.v, ak.d.v, .bool al.s, al.m.v, al.d.v])) ty32 zze (zzg 19 145 _ fun _ _ aw aT => Post.mono (k_r4Sub aT (ay.ext (aJ.t (aP.t (ax.t (ar.t (af.t (am.t (ab.t (au.t (aa.t (aL.t aw))))))))))).raw (aD.ext (aJ.t (aP.t (ax.t (ar.t (af.t (am.t (ab.t (au.t (aa.t (aL.t aw))))))))))).raw (aC.ext aw).raw (aE.ext aw).raw xq xq) ?_)))
 rintro _ u88 g89 ⟨ae, ah, rfl, aW, aY⟩
 refine zzi ⟨32, ae.cs ++ ah.cs⟩ ty32 ?_
 refine zzb (zzn (ret0 [.agg #[.bool ae.s, ae.m.v, ae.d.v, .bool ah.s, ah.m.v, ah.d.v]] ⟨zzq ty32 zze, trivial⟩ fun u91 aQ => ?_))
 have hP := Nt.PiR.of an ac
 have hb9 := hP.bd hk0
 refine ⟨ae, ah, _, _, rfl, RatN.limG (K := ((40 + 2 + 1) + (40 + 2 + 1) + 2)) (z := ad * 16 - ao * 4) ?_ xq xq hk, RatN.limG (K := ((40 + 2 + 1) + (40 + 2 + 1) + 2)) (z := aj * 16 - ag * 4) ?_ xq xq hk, hP⟩
 ·have h9 := (aW.ext aQ)
  rw [(Nt.cs_s xq xq).1] at h9
  exact h9
 have h9 := (aY.ext aQ)
 rw [(Nt.cs_s xq xq).2] at h9
 exact h9
set_option maxHeartbeats 4000000 in
theorem k_r10cos {u w : World} {a1 a2 : RL} {p q k K : Nat} {a b : Int} (d : Dat u w) (hP : Nt.PiR k a b) (hq0 : 0 < q) (hp : 2 * p ≤ q) (hp1 : 1 ≤ p) (hk0 : 16 ≤ k) (hk : k ≤ 800) (ha1 : RatN u a1 (Nt.gr k a * (((p : Int) : Rat) / ((q : Int) : Rat))) K) (ha2 : RatN u a2 (Nt.gr k b * (((p : Int) : Rat) / ((q : Int) : Rat))) K) (hK : K ≤ 1000) : Calls Tryz.prog 106 #[IV a1 a2, .int .i64 (k : Int)] w (Post u w fun v u' => ∃ (r1 r2 : RL) (a b : Int), v = IV r1 r2 ∧ RatN u' r1 (Nt.gr k a) 40 ∧ RatN u' r2 (Nt.gr k b) 40 ∧ Nt.CsR p q k a b) := by
 have hbig := Nt.big hk
 have hu2 := Nt.u2_pos k
 have hw0 := Nt.csW_le hk
 have eh : Nt.CsQ p q k (Nt.flU k ((Nt.gr k a * (((p : Int) : Rat) / ((q : Int) : Rat))) * (Nt.gr k a * (((p : Int) : Rat) / ((q : Int) : Rat))))) (Nt.ceU k ((Nt.gr k b * (((p : Int) : Rat) / ((q : Int) : Rat))) * (Nt.gr k b * (((p : Int) : Rat) / ((q : Int) : Rat))))) ∧ 0 ≤ (Nt.gr k a * (((p : Int) : Rat) / ((q : Int) : Rat))) ∧ (Nt.gr k a * (((p : Int) : Rat) / ((q : Int) : Rat))) ≤ (Nt.gr k b * (((p : Int) : Rat) / ((q : Int) : Rat))) ∧ 0 < (Nt.gr k b * (((p : Int) : Rat) / ((q : Int) : Rat))) := Nt.CsQ.ofR hP hk0 hq0 hp hp1
 obtain ⟨hQ, d2, hxy, eF⟩ := eh
 have hS := Nt.sq_of_nn d2 hxy eF
 obtain ⟨ql, hql⟩ : ∃ z : Int, Nt.flU k ((Nt.gr k a * (((p : Int) : Rat) / ((q : Int) : Rat))) * (Nt.gr k a * (((p : Int) : Rat) / ((q : Int) : Rat)))) = z := ⟨_, rfl⟩
 obtain ⟨qh, hqh⟩ : ∃ z : Int, Nt.ceU k ((Nt.gr k b * (((p : Int) : Rat) / ((q : Int) : Rat))) * (Nt.gr k b * (((p : Int) : Rat) / ((q : Int) : Rat)))) = z := ⟨_, rfl⟩
 rw [hql, hqh] at hQ
 obtain ⟨_, hQ2, bi, hQ4, bh, hQ6⟩ := id hQ
 refine zzl (args := [.agg #[.bool a1.s, a1.m.v, a1.d.v, .bool a2.s, a2.m.v, a2.d.v], .int .i64 k]) Tryz.func106 rfl Tryz.ntmps106 (rs := [.cell 4 32]) Tryz.results106 (le_b rfl) (le_b rfl) d ?_
 refine sq9 (zzj 2 ⟨32, a1.cs ++ a2.cs⟩ (zzj 4 ⟨32, zw6⟩ (zzb (sq9 (zzg 11 30 _ fun _ _ dR ej => Post.mono (k_rqOf ej (z := 0) xq xq) ?_)))))
 rintro _ u14 dV ⟨r12, rfl, eV⟩
 refine zzg 12 30 _ fun _ _ cB d4 => Post.mono (k_rqOf d4 (z := 0) xq xq) ?_
 rintro _ u20 cQ ⟨r18, rfl, eK⟩
 refine zzg 13 38 _ fun _ _ ct eq => Post.mono (k_r4Make eq (eV.ext (cB.t (cQ.t ct))).raw (eK.ext ct).raw xq) ?_
 rintro _ u28 dQ ⟨dU, dO, rfl, dX, eE⟩
 refine zzj 5 ⟨32, zw6⟩ (zzi ⟨32, dU.cs ++ dO.cs⟩ ty32 ?_)
 refine zzb (sq9 (zzg 14 30 _ fun _ _ cq d5 => Post.mono (k_rqOf d5 (z := 1) xq xq) ?_))
 rintro _ u34 cy ⟨r32, rfl, eb⟩
 refine zzg 15 30 _ fun _ _ bX eW => Post.mono (k_rqOf eW (z := 1) xq xq) ?_
 rintro _ u40 cg ⟨r38, rfl, d1⟩
 refine zzg 16 38 _ fun _ _ bP e8 => Post.mono (k_r4Make e8 (eb.ext (bX.t (cg.t bP))).raw (d1.ext bP).raw xq) ?_
 rintro _ u48 cv ⟨dS, dP, rfl, eT, d7⟩
 refine zzj 6 ⟨32, zw6⟩ (zzi ⟨32, dS.cs ++ dP.cs⟩ ty32 ?_)
 refine zzb (sq9 (zzh 17 (.v (.agg #[.bool a1.s, a1.m.v, a1.d.v, .bool a2.s, a2.m.v, a2.d.v])) ty32 zze (zzg 18 44 _ fun _ _ bN d8 => Post.mono (k_r4Square d8 (ha1.ext (dR.t (dV.t (cB.t (cQ.t (ct.t (dQ.t (cq.t (cy.t (bX.t (cg.t (bP.t (cv.t bN))))))))))))).raw (ha2.ext (dR.t (dV.t (cB.t (cQ.t (ct.t (dQ.t (cq.t (cy.t (bX.t (cg.t (bP.t (cv.t bN))))))))))))).raw xq) ?_)))
 rintro _ u56 cx ⟨r52, r54, rfl, ex, e5⟩
 refine zza 19 (zI k) (zzg 20 187 _ fun _ _ bO eJ => Post.mono (k_wide (k := k) eJ (ex.ext bO).raw (e5.ext bO).raw xq xq) ?_)
 rintro _ cr cu ⟨an, am, rfl, e1, eG⟩
 refine zzj 7 ⟨32, zw6⟩ (zzi ⟨32, an.cs ++ am.cs⟩ ty32 ?_)
 refine zzb (zzd ?_)
 have dx : RatN cr an (Nt.gr k ql) ((K + K + 3) + 70) := zRc e1 ((congrArg (fun z => Nt.gr k (Nt.flU k z)) hS.1).trans (by rw [hql]))
 have c3 : RatN cr am (Nt.gr k qh) ((K + K + 3) + 70) := zRc eG ((congrArg (fun z => Nt.gr k (Nt.ceU k z)) hS.2).trans (by rw [hqh]))
 have bg : RatN cr an (Nt.gr k ql) 40 := RatN.limG dx xq xq hk
 have bf : RatN cr am (Nt.gr k qh) 40 := RatN.limG c3 xq xq hk
 refine zzf (zzg 21 30 _ fun _ _ aP eB => Post.mono (k_rqOf eB (z := 1) xq xq) ?_)
 rintro _ u74 aO ⟨r72, rfl, fd⟩
 refine zza 22 (zI k) (zzg 23 27 _ fun _ _ aM e6 => Post.mono (k_unit (k := k) e6 xq) ?_)
 rintro _ u80 aL ⟨r78, rfl, eu⟩
 refine zzg 24 88 _ fun _ _ aI ec => Post.mono (k_rqOver ec (fd.ext (aM.t (aL.t aI))).raw (eu.ext aI).raw xq xq) ?_
 rintro _ eN aN ⟨bS, rfl, dW⟩
 refine zzj 8 ⟨26, zw3⟩ (zzi ⟨26, bS.cs⟩ ty26 ?_)
 refine zzb (sq9 (zza 9 (zI 0) (zzb (zzs (zym (I := fun dT S' u' => ∃ (j : Nat) (x1 : RL) (x2 : RL) (y1 : RL) (y2 : RL) (tl : Int) (th : Int) (cc : Int) (dd : Int), (dT = Nt.csMF k j th) ∧ (Nt.CsF p q k j tl th cc dd) ∧ (S' = St.of 70 [(1, zI k), (4, .adr 4 0), (5, .adr 5 0), (6, .adr 6 0), (7, .adr 7 0), (8, .adr 8 0), (9, zI j)] [(4, ⟨32, zw6⟩), (5, ⟨32, y1.cs ++ y2.cs⟩), (6, ⟨32, x1.cs ++ x2.cs⟩), (7, ⟨32, an.cs ++ am.cs⟩), (8, ⟨26, bS.cs⟩)]) ∧ (Ext eN u') ∧ (RatN u' x1 (Nt.gr k tl) 40) ∧ (RatN u' x2 (Nt.gr k th) 40) ∧ (RatN u' y1 (Nt.gr k cc) 40) ∧ (RatN u' y2 (Nt.gr k dd) 40)) (fun m S u1 u2 e h => by obtain ⟨j, x1, x2, y1, y2, tl, th, cc, dd, hm, p0, hS, hE, f0, f1, f2, f3⟩ := h; exact ⟨j, x1, x2, y1, y2, tl, th, cc, dd, hm, p0, hS, hE.trans e, f0.ext e, f1.ext e, f2.ext e, f3.ext e⟩) _ yz ⟨0, dS, dP, dU, dO, (Nt.u2 k), (Nt.u2 k), 0, 0, rfl, Nt.CsF.start, rfl, (Ext.refl _), (by have h9 := (eT.ext (bN.t (cx.t (bO.t (cu.t (aP.t (aO.t (aM.t (aL.t (aI.t aN.ext)))))))))); (try simp only [Nt.lo_self] at h9); (try simp only [Nt.hi_self] at h9); rw [show ((1 : Int) : Rat) = Nt.gr k (Nt.u2 k) from (Nt.gr_one k).symm] at h9; exact RatN.more h9 xq), (by have h9 := (d7.ext (bN.t (cx.t (bO.t (cu.t (aP.t (aO.t (aM.t (aL.t (aI.t aN.ext)))))))))); (try simp only [Nt.lo_self] at h9); (try simp only [Nt.hi_self] at h9); rw [show ((1 : Int) : Rat) = Nt.gr k (Nt.u2 k) from (Nt.gr_one k).symm] at h9; exact RatN.more h9 xq), (by have h9 := (dX.ext (cq.t (cy.t (bX.t (cg.t (bP.t (cv.t (bN.t (cx.t (bO.t (cu.t (aP.t (aO.t (aM.t (aL.t (aI.t aN.ext)))))))))))))))); (try simp only [Nt.lo_self] at h9); (try simp only [Nt.hi_self] at h9); rw [show ((0 : Int) : Rat) = Nt.gr k 0 from (Nt.gr_zero k).symm] at h9; exact RatN.more h9 xq), (by have h9 := (eE.ext (cq.t (cy.t (bX.t (cg.t (bP.t (cv.t (bN.t (cx.t (bO.t (cu.t (aP.t (aO.t (aM.t (aL.t (aI.t aN.ext)))))))))))))))); (try simp only [Nt.lo_self] at h9); (try simp only [Nt.hi_self] at h9); rw [show ((0 : Int) : Rat) = Nt.gr k 0 from (Nt.gr_zero k).symm] at h9; exact RatN.more h9 xq)⟩ ?_)))))
 rintro dT _ u89 ⟨j, x1, x2, y1, y2, tl, th, cc, dd, dY, hI, rfl, aJ, f0, f1, f2, f3⟩
 have hjw := hI.t.jw
 have ht0 := hI.t.t0
 have ht1 := hI.t.t1
 have htt := hI.t.tt
 have ht2 := hI.t.t2
 have hcd := hI.cd
 have hbd := hI.bd hq0 hp
 have hD1 := Nt.coD_pos j
 have hD2 := Nt.coD_mulR (j := j) xq
 refine zzd (zzs (zzd (sq9 (zza 27 (zI j) (zza 28 (zB (decide ((1 : Int) < (j : Int)))) ?_)))))
 rcases Bool.eq_false_or_eq_true (decide ((1 : Int) < (j : Int))) with hs90 | hs90
 ·refine zyp 29 (x := zB (decide ((1 : Int) < (j : Int)))) (zB true) (by rw [hs90]) ?_
  have qhs90 := of_decide_eq_true hs90
  refine zza 30 (.adr 6 3) ?_ (hw := w1 2 true 29)
  refine zzh 31 (.v (x2.v)) ty26 zze ?_ (hw := w1 2 true 29)
  refine zzh 32 (.v (bS.v)) ty26 zze ?_ (hw := w1 2 true 29)
  refine zzg 33 28 _ (fun _ _ aa et => Post.mono (k_rqCompare et (f1.ext aa).raw (dW.ext (aJ.trans aa)).raw xq xq) ?_) (hw := w1 2 true 29)
  rintro _ u92 ab rfl
  refine zza 34 (zB (decide ((Nt.cmpQ (Nt.gr k th) (((1 : Int) : Rat) / (((2 ^ k : Nat) : Int) : Rat))) ≤ 0))) ?_ (hw := w1 2 true 29)
  refine zza 35 (zB (decide ((Nt.cmpQ (Nt.gr k th) (((1 : Int) : Rat) / (((2 ^ k : Nat) : Int) : Rat))) ≤ 0))) (zzc 70 [(1, zI k), (4, .adr 4 0), (5, .adr 5 0), (6, .adr 6 0), (7, .adr 7 0), (8, .adr 8 0), (9, zI j), (35, zB (decide ((Nt.cmpQ (Nt.gr k th) (((1 : Int) : Rat) / (((2 ^ k : Nat) : Int) : Rat))) ≤ 0)))] [(4, ⟨32, zw6⟩), (5, ⟨32, y1.cs ++ y2.cs⟩), (6, ⟨32, x1.cs ++ x2.cs⟩), (7, ⟨32, an.cs ++ am.cs⟩), (8, ⟨26, bS.cs⟩)] (zzt (b := decide ((Nt.cmpQ (Nt.gr k th) (((1 : Int) : Rat) / (((2 ^ k : Nat) : Int) : Rat))) ≤ 0)) xj (fun aK => ?_) (fun aK => ?_)))
  ·have qhb95 := of_decide_eq_true aK
   refine zzd (zzy [0, 0, 2, 6, 0, 16, 62, 127, 255] [(0, []), (1, []), (2, []), (4, []), (5, []), (3, []), (6, []), (7, []), (8, [])] xj xj (zzh 36 (.v (.agg #[.bool y1.s, y1.m.v, y1.d.v, .bool y2.s, y2.m.v, y2.d.v])) ty32 zze (zza 37 (.adr 6 3) (zzh 38 (.v (x2.v)) ty26 zze (zza 40 (.adr 6 3) (zzh 41 (.v (x2.v)) ty26 zze (zzg 39 39 _ fun _ _ cw ee => Post.mono (k_rqNeg ee (f1.ext (aa.t (ab.t cw))).raw xq) ?_)))))))
   rintro _ u99 bE ⟨r97, rfl, e4⟩
   refine zzg 42 38 _ fun _ _ be cG => Post.mono (k_r4Make cG (e4.ext be).raw (f1.ext (aa.t (ab.t (cw.t (bE.t be))))).raw xq) ?_
   rintro _ ea cn ⟨eQ, dZ, rfl, dv, dg⟩
   refine zzg 43 43 _ fun _ _ bc cV => Post.mono (k_r4Add cV (f2.ext (aa.t (ab.t (cw.t (bE.t (be.t (cn.t bc))))))).raw (f3.ext (aa.t (ab.t (cw.t (bE.t (be.t (cn.t bc))))))).raw (dv.ext bc).raw (dg.ext bc).raw xq xq) ?_
   rintro _ ep d0 ⟨aW, a8, rfl, dD, c1⟩
   refine zzi ⟨32, aW.cs ++ a8.cs⟩ ty32 ?_
   refine zzb (zzn (zzv (zyt (zzv (zys (zyt (ret0 [.agg #[.bool aW.s, aW.m.v, aW.d.v, .bool a8.s, a8.m.v, a8.d.v]] ⟨zzq ty32 zze, trivial⟩ fun eZ ck => ?_)))))))
   have hle : 1 < j ∧ th ≤ 1 := by have h8 := of_decide_eq_true hs90; have h9 := aK; rw [show (((1 : Int) : Rat) / (((2 ^ k : Nat) : Int) : Rat)) = Nt.gr k 1 from rfl, Nt.cs_end] at h9; have h7 := of_decide_eq_true h9; omega
   have ho := hI.out hq0 hp hle.1 hle.2
   have hob := Nt.csR_bd ho hq0 hp hk
   refine ⟨aW, a8, _, _, rfl, RatN.limG (K := (40 + 40 + 2)) (z := cc - th) ?_ xq xq hk, RatN.limG (K := (40 + 40 + 2)) (z := dd + th) ?_ xq xq hk, ho⟩
   ·have h9 := (dD.ext ck)
    rw [(Nt.cs_o xq hcd).1] at h9
    exact h9
   have h9 := (c1.ext ck)
   rw [(Nt.cs_o xq hcd).2] at h9
   exact h9
  have qhb95 := of_decide_eq_false aK
  refine zzr (zzo ?_)
  refine zzd (sq9 (zza 44 (zI j) (zza 45 (zI (Int.tmod (j : Int) 2)) (zza 46 (zB ((Int.tmod (j : Int) 2) == 0)) (zzb (zzt (b := (Int.tmod (j : Int) 2) == 0) xj (fun a3 => ?_) (fun a3 => ?_)))))))
  ·have aq : Int.tmod (j : Int) 2 = (j : Int) % 2 := Int.tmod_eq_emod_of_nonneg xq
   have ae :  j % 2 = 0 := by have h9 := a3; rw [aq] at h9; simp at h9; omega
   refine zzf (zzh 47 (.v (.agg #[.bool y1.s, y1.m.v, y1.d.v, .bool y2.s, y2.m.v, y2.d.v])) ty32 zze (zzh 48 (.v (.agg #[.bool x1.s, x1.m.v, x1.d.v, .bool x2.s, x2.m.v, x2.d.v])) ty32 zze (zzg 49 43 _ fun _ _ al dN => Post.mono (k_r4Add dN (f2.ext (aa.t (ab.t al))).raw (f3.ext (aa.t (ab.t al))).raw (f0.ext (aa.t (ab.t al))).raw (f1.ext (aa.t (ab.t al))).raw xq xq) ?_)))
   rintro _ bZ aR ⟨bJ, bk, rfl, cR, dt⟩
   refine zzi ⟨32, bJ.cs ++ bk.cs⟩ ty32 ?_
   refine zzb (zzd ?_)
   have cp : RatN bZ bJ (Nt.gr k (cc + tl)) (40 + 40 + 2) := zRc cR ((Nt.cs_a htt hcd).1)
   have b9 : RatN bZ bk (Nt.gr k (dd + th)) (40 + 40 + 2) := zRc dt ((Nt.cs_a htt hcd).2)
   refine zzf (zza 53 (zI j) (zyp 54 (x := zI (IntKind.i64.wrap ((2 : Int) * (j : Int)))) (zI (2 * j : Nat)) (eqI xk) (zyp 55 (x := zI (IntKind.i64.wrap (((2 * j : Nat) : Int) + 1))) (zI (((2 * j) + 1 : Nat) : Int)) (eqI xk) (zza 56 (zI j) (zyp 57 (x := zI (IntKind.i64.wrap ((2 : Int) * (j : Int)))) (zI (2 * j : Nat)) (eqI xk) (zyp 58 (x := zI (IntKind.i64.wrap (((2 * j : Nat) : Int) + 2))) (zI (((2 * j) + 2 : Nat) : Int)) (eqI xk) (zqI 59 (show (IntKind.i64.wrap (((2 * j + 1 : Nat) : Int) * ((2 * j + 2 : Nat) : Int))) = (Nt.coD j) from hD2.1) (zzg 60 75 _ fun _ _ aD cF => Post.mono (k_rqFrac cF (a := 1) (b := (Nt.coD j)) xq xq xq xq) ?_))))))))
   rintro _ fb ay ⟨bC, rfl, bQ⟩
   refine zzj 10 ⟨26, zw3⟩ (zzi ⟨26, bC.cs⟩ ty26 ?_)
   refine zzb (zzy [0, 0, 3, 0, 0, 31, 63, 0, 255, 511] [(0, []), (1, []), (3, []), (4, []), (7, []), (2, []), (5, []), (6, []), (8, []), (9, [])] xj xj (zzh 61 (.v (.agg #[.bool x1.s, x1.m.v, x1.d.v, .bool x2.s, x2.m.v, x2.d.v])) ty32 zze (zzh 62 (.v (.agg #[.bool an.s, an.m.v, an.d.v, .bool am.s, am.m.v, am.d.v])) ty32 zze (zzh 64 (.v (bC.v)) ty26 zze (zzh 65 (.v (bC.v)) ty26 zze (zza 68 (zI k) (zzg 63 68 _ fun _ _ ah cL => Post.mono (k_r4Mul cL (f0.ext (aa.t (ab.t (al.t (aR.t (aD.t (ay.t ah))))))).raw (f1.ext (aa.t (ab.t (al.t (aR.t (aD.t (ay.t ah))))))).raw (bg.ext (aP.t (aO.t (aM.t (aL.t (aI.t (aN.t (aJ.t (aa.t (ab.t (al.t (aR.t (aD.t (ay.t ah)))))))))))))).raw (bf.ext (aP.t (aO.t (aM.t (aL.t (aI.t (aN.t (aJ.t (aa.t (ab.t (al.t (aR.t (aD.t (ay.t ah)))))))))))))).raw xq xq) ?_)))))))
   rintro _ eD aQ ⟨e3, e9, rfl, dc, cM⟩
   refine zzg 66 38 _ fun _ _ aH cZ => Post.mono (k_r4Make cZ (bQ.ext (ah.t (aQ.t aH))).raw (bQ.ext (ah.t (aQ.t aH))).raw xq) ?_
   rintro _ d3 a0 ⟨em, er, rfl, dF, c0⟩
   refine zzg 67 68 _ fun _ _ az cU => Post.mono (k_r4Mul cU (dc.ext (aH.t (a0.t az))).raw (cM.ext (aH.t (a0.t az))).raw (dF.ext az).raw (c0.ext az).raw xq xq) ?_
   rintro _ fc bu ⟨ek, ed, rfl, cA, cH⟩
   refine zzg 69 187 _ fun _ _ aX cI => Post.mono (k_wide (k := k) cI (cA.ext aX).raw (cH.ext aX).raw xq xq) ?_
   rintro _ b1 bp ⟨bz, bx, rfl, cT, dj⟩
   refine zzi ⟨32, bz.cs ++ bx.cs⟩ ty32 ?_
   refine zzw ?_
   refine zzo ?_
   have cm : RatN b1 bz (Nt.gr k (Nt.csL k j tl ql)) (((40 + 40 + 1) + 3 + 1) + 70) := zRc cT (congrArg (Nt.gr k) (Nt.cs_t (j := j) (F := (((1 : Int) : Rat) / ((Nt.coD j : Int) : Rat))) ht0 htt bi bh rfl).1)
   have ci : RatN b1 bx (Nt.gr k (Nt.csH k j th qh)) (((40 + 40 + 1) + 3 + 1) + 70) := zRc dj (congrArg (Nt.gr k) (Nt.cs_t (j := j) (F := (((1 : Int) : Rat) / ((Nt.coD j : Int) : Rat))) ht0 htt bi bh rfl).2)
   refine zzf (zza 25 (zI j) (zyp 26 (x := zI (IntKind.i64.wrap ((j : Int) + 1))) (zI (j + 1 : Nat)) (eqI xk) (zza 9 (zI (j + 1 : Nat)) (zzw ?_))))
   have hne : j ≤ 1 ∨ 2 ≤ th := by have h9 := aK; rw [show (((1 : Int) : Rat) / (((2 ^ k : Nat) : Int) : Rat)) = Nt.gr k 1 from rfl, Nt.cs_end] at h9; have h7 := of_decide_eq_false h9; omega
   have hgo := hI.go hQ hne (.inl ⟨ae, rfl, rfl⟩)
   have hb9 := hgo.1.bd hq0 hp
   have hw9 := Nt.csW_le hk
   have hg0 := hgo.1.t.t0
   have hg1 := hgo.1.t.t1
   have hgt := hgo.1.t.tt
   have hg2 := hgo.1.t.t2
   have hmm := hgo.2
   refine ⟨_, ?_, _, by exact zzu _ _ _, j + 1, bz, bx, bJ, bk, (Nt.csL k j tl ql), (Nt.csH k j th qh), (cc + tl), (dd + th), rfl, hgo.1, rfl, (aJ.t (aa.t (ab.t (al.t (aR.t (aD.t (ay.t (ah.t (aQ.t (aH.t (a0.t (az.t (bu.t (aX.t bp.ext)))))))))))))), (RatN.limG cm xq xq hk), (RatN.limG ci xq xq hk), (RatN.limG (cp.ext (aD.t (ay.t (ah.t (aQ.t (aH.t (a0.t (az.t (bu.t (aX.t bp.ext)))))))))) xq xq hk), (RatN.limG (b9.ext (aD.t (ay.t (ah.t (aQ.t (aH.t (a0.t (az.t (bu.t (aX.t bp.ext)))))))))) xq xq hk)⟩
   omega
  have aq : Int.tmod (j : Int) 2 = (j : Int) % 2 := Int.tmod_eq_emod_of_nonneg xq
  have ae : ¬ j % 2 = 0 := by have h9 := a3; rw [aq] at h9; simp at h9; omega
  refine zzf (zzh 50 (.v (.agg #[.bool y1.s, y1.m.v, y1.d.v, .bool y2.s, y2.m.v, y2.d.v])) ty32 zze (zzh 51 (.v (.agg #[.bool x1.s, x1.m.v, x1.d.v, .bool x2.s, x2.m.v, x2.d.v])) ty32 zze (zzg 52 145 _ fun _ _ ag cJ => Post.mono (k_r4Sub cJ (f2.ext (aa.t (ab.t ag))).raw (f3.ext (aa.t (ab.t ag))).raw (f0.ext (aa.t (ab.t ag))).raw (f1.ext (aa.t (ab.t ag))).raw xq xq) ?_)))
  rintro _ ch aT ⟨bB, bI, rfl, dC, c7⟩
  refine zzi ⟨32, bB.cs ++ bI.cs⟩ ty32 ?_
  refine zzb (zzd ?_)
  have bT : RatN ch bB (Nt.gr k (cc - th)) (40 + 40 + 2) := zRc dC ((Nt.cs_s htt hcd).1)
  have b0 : RatN ch bI (Nt.gr k (dd - tl)) (40 + 40 + 2) := zRc c7 ((Nt.cs_s htt hcd).2)
  refine zzf (zza 53 (zI j) (zyp 54 (x := zI (IntKind.i64.wrap ((2 : Int) * (j : Int)))) (zI (2 * j : Nat)) (eqI xk) (zyp 55 (x := zI (IntKind.i64.wrap (((2 * j : Nat) : Int) + 1))) (zI (((2 * j) + 1 : Nat) : Int)) (eqI xk) (zza 56 (zI j) (zyp 57 (x := zI (IntKind.i64.wrap ((2 : Int) * (j : Int)))) (zI (2 * j : Nat)) (eqI xk) (zyp 58 (x := zI (IntKind.i64.wrap (((2 * j : Nat) : Int) + 2))) (zI (((2 * j) + 2 : Nat) : Int)) (eqI xk) (zqI 59 (show (IntKind.i64.wrap (((2 * j + 1 : Nat) : Int) * ((2 * j + 2 : Nat) : Int))) = (Nt.coD j) from hD2.1) (zzg 60 75 _ fun _ _ aE dw => Post.mono (k_rqFrac dw (a := 1) (b := (Nt.coD j)) xq xq xq xq) ?_))))))))
  rintro _ e2 ar ⟨bs, rfl, b6⟩
  refine zzj 10 ⟨26, zw3⟩ (zzi ⟨26, bs.cs⟩ ty26 ?_)
  refine zzb (zzy [0, 0, 3, 0, 0, 31, 63, 0, 255, 511] [(0, []), (1, []), (3, []), (4, []), (7, []), (2, []), (5, []), (6, []), (8, []), (9, [])] xj xj (zzh 61 (.v (.agg #[.bool x1.s, x1.m.v, x1.d.v, .bool x2.s, x2.m.v, x2.d.v])) ty32 zze (zzh 62 (.v (.agg #[.bool an.s, an.m.v, an.d.v, .bool am.s, am.m.v, am.d.v])) ty32 zze (zzh 64 (.v (bs.v)) ty26 zze (zzh 65 (.v (bs.v)) ty26 zze (zza 68 (zI k) (zzg 63 68 _ fun _ _ af dy => Post.mono (k_r4Mul dy (f0.ext (aa.t (ab.t (ag.t (aT.t (aE.t (ar.t af))))))).raw (f1.ext (aa.t (ab.t (ag.t (aT.t (aE.t (ar.t af))))))).raw (bg.ext (aP.t (aO.t (aM.t (aL.t (aI.t (aN.t (aJ.t (aa.t (ab.t (ag.t (aT.t (aE.t (ar.t af)))))))))))))).raw (bf.ext (aP.t (aO.t (aM.t (aL.t (aI.t (aN.t (aJ.t (aa.t (ab.t (ag.t (aT.t (aE.t (ar.t af)))))))))))))).raw xq xq) ?_)))))))
  rintro _ es aV ⟨eI, eA, rfl, de, cX⟩
  refine zzg 66 38 _ fun _ _ aA cW => Post.mono (k_r4Make cW (b6.ext (af.t (aV.t aA))).raw (b6.ext (af.t (aV.t aA))).raw xq) ?_
  rintro _ eP ba ⟨eo, fe, rfl, c9, dm⟩
  refine zzg 67 68 _ fun _ _ ao dp => Post.mono (k_r4Mul dp (de.ext (aA.t (ba.t ao))).raw (cX.ext (aA.t (ba.t ao))).raw (c9.ext ao).raw (dm.ext ao).raw xq xq) ?_
  rintro _ ez bj ⟨eO, en, rfl, cP, di⟩
  refine zzg 69 187 _ fun _ _ a9 dK => Post.mono (k_wide (k := k) dK (cP.ext a9).raw (di.ext a9).raw xq xq) ?_
  rintro _ b3 bA ⟨bv, bH, rfl, dA, dG⟩
  refine zzi ⟨32, bv.cs ++ bH.cs⟩ ty32 ?_
  refine zzw ?_
  refine zzo ?_
  have ca : RatN b3 bv (Nt.gr k (Nt.csL k j tl ql)) (((40 + 40 + 1) + 3 + 1) + 70) := zRc dA (congrArg (Nt.gr k) (Nt.cs_t (j := j) (F := (((1 : Int) : Rat) / ((Nt.coD j : Int) : Rat))) ht0 htt bi bh rfl).1)
  have cb : RatN b3 bH (Nt.gr k (Nt.csH k j th qh)) (((40 + 40 + 1) + 3 + 1) + 70) := zRc dG (congrArg (Nt.gr k) (Nt.cs_t (j := j) (F := (((1 : Int) : Rat) / ((Nt.coD j : Int) : Rat))) ht0 htt bi bh rfl).2)
  refine zzf (zza 25 (zI j) (zyp 26 (x := zI (IntKind.i64.wrap ((j : Int) + 1))) (zI (j + 1 : Nat)) (eqI xk) (zza 9 (zI (j + 1 : Nat)) (zzw ?_))))
  have hne : j ≤ 1 ∨ 2 ≤ th := by have h9 := aK; rw [show (((1 : Int) : Rat) / (((2 ^ k : Nat) : Int) : Rat)) = Nt.gr k 1 from rfl, Nt.cs_end] at h9; have h7 := of_decide_eq_false h9; omega
  have hgo := hI.go hQ hne (.inr ⟨ae, rfl, rfl⟩)
  have hb9 := hgo.1.bd hq0 hp
  have hw9 := Nt.csW_le hk
  have hg0 := hgo.1.t.t0
  have hg1 := hgo.1.t.t1
  have hgt := hgo.1.t.tt
  have hg2 := hgo.1.t.t2
  have hmm := hgo.2
  refine ⟨_, ?_, _, by exact zzu _ _ _, j + 1, bv, bH, bB, bI, (Nt.csL k j tl ql), (Nt.csH k j th qh), (cc - th), (dd - tl), rfl, hgo.1, rfl, (aJ.t (aa.t (ab.t (ag.t (aT.t (aE.t (ar.t (af.t (aV.t (aA.t (ba.t (ao.t (bj.t (a9.t bA.ext)))))))))))))), (RatN.limG ca xq xq hk), (RatN.limG cb xq xq hk), (RatN.limG (bT.ext (aE.t (ar.t (af.t (aV.t (aA.t (ba.t (ao.t (bj.t (a9.t bA.ext)))))))))) xq xq hk), (RatN.limG (b0.ext (aE.t (ar.t (af.t (aV.t (aA.t (ba.t (ao.t (bj.t (a9.t bA.ext)))))))))) xq xq hk)⟩
  omega
 refine zyp 29 (x := zB (decide ((1 : Int) < (j : Int)))) (zB false) (by rw [hs90]) ?_
 have qhs90 := of_decide_eq_false hs90
 refine zzm 30 (uw 2 true false 29) (zzm 31 (uw 2 true false 29) (zzm 32 (uw 2 true false 29) (zzm 33 (uw 2 true false 29) (zzm 34 (uw 2 true false 29) (zza 35 (zB false) (zzc 70 [(1, zI k), (4, .adr 4 0), (5, .adr 5 0), (6, .adr 6 0), (7, .adr 7 0), (8, .adr 8 0), (9, zI j), (35, zB false)] [(4, ⟨32, zw6⟩), (5, ⟨32, y1.cs ++ y2.cs⟩), (6, ⟨32, x1.cs ++ x2.cs⟩), (7, ⟨32, an.cs ++ am.cs⟩), (8, ⟨26, bS.cs⟩)] (zyr xj (zzr (zzo ?_)))))))))
 refine zzd (sq9 (zza 44 (zI j) (zza 45 (zI (Int.tmod (j : Int) 2)) (zza 46 (zB ((Int.tmod (j : Int) 2) == 0)) (zzb (zzt (b := (Int.tmod (j : Int) 2) == 0) xj (fun a7 => ?_) (fun a7 => ?_)))))))
 ·have av : Int.tmod (j : Int) 2 = (j : Int) % 2 := Int.tmod_eq_emod_of_nonneg xq
  have ad :  j % 2 = 0 := by have h9 := a7; rw [av] at h9; simp at h9; omega
  refine zzf (zzh 47 (.v (.agg #[.bool y1.s, y1.m.v, y1.d.v, .bool y2.s, y2.m.v, y2.d.v])) ty32 zze (zzh 48 (.v (.agg #[.bool x1.s, x1.m.v, x1.d.v, .bool x2.s, x2.m.v, x2.d.v])) ty32 zze (zzg 49 43 _ fun _ _ ac dh => Post.mono (k_r4Add dh (f2.ext ac).raw (f3.ext ac).raw (f0.ext ac).raw (f1.ext ac).raw xq xq) ?_)))
  rintro _ b2 a4 ⟨bn, bq, rfl, du, db⟩
  refine zzi ⟨32, bn.cs ++ bq.cs⟩ ty32 ?_
  refine zzb (zzd ?_)
  have cl : RatN b2 bn (Nt.gr k (cc + tl)) (40 + 40 + 2) := zRc du ((Nt.cs_a htt hcd).1)
  have b4 : RatN b2 bq (Nt.gr k (dd + th)) (40 + 40 + 2) := zRc db ((Nt.cs_a htt hcd).2)
  refine zzf (zza 53 (zI j) (zyp 54 (x := zI (IntKind.i64.wrap ((2 : Int) * (j : Int)))) (zI (2 * j : Nat)) (eqI xk) (zyp 55 (x := zI (IntKind.i64.wrap (((2 * j : Nat) : Int) + 1))) (zI (((2 * j) + 1 : Nat) : Int)) (eqI xk) (zza 56 (zI j) (zyp 57 (x := zI (IntKind.i64.wrap ((2 : Int) * (j : Int)))) (zI (2 * j : Nat)) (eqI xk) (zyp 58 (x := zI (IntKind.i64.wrap (((2 * j : Nat) : Int) + 2))) (zI (((2 * j) + 2 : Nat) : Int)) (eqI xk) (zqI 59 (show (IntKind.i64.wrap (((2 * j + 1 : Nat) : Int) * ((2 * j + 2 : Nat) : Int))) = (Nt.coD j) from hD2.1) (zzg 60 75 _ fun _ _ aB dz => Post.mono (k_rqFrac dz (a := 1) (b := (Nt.coD j)) xq xq xq xq) ?_))))))))
  rintro _ ff aC ⟨bK, rfl, b5⟩
  refine zzj 10 ⟨26, zw3⟩ (zzi ⟨26, bK.cs⟩ ty26 ?_)
  refine zzb (zzy [0, 0, 3, 0, 0, 31, 63, 0, 255, 511] [(0, []), (1, []), (3, []), (4, []), (7, []), (2, []), (5, []), (6, []), (8, []), (9, [])] xj xj (zzh 61 (.v (.agg #[.bool x1.s, x1.m.v, x1.d.v, .bool x2.s, x2.m.v, x2.d.v])) ty32 zze (zzh 62 (.v (.agg #[.bool an.s, an.m.v, an.d.v, .bool am.s, am.m.v, am.d.v])) ty32 zze (zzh 64 (.v (bK.v)) ty26 zze (zzh 65 (.v (bK.v)) ty26 zze (zza 68 (zI k) (zzg 63 68 _ fun _ _ aj dH => Post.mono (k_r4Mul dH (f0.ext (ac.t (a4.t (aB.t (aC.t aj))))).raw (f1.ext (ac.t (a4.t (aB.t (aC.t aj))))).raw (bg.ext (aP.t (aO.t (aM.t (aL.t (aI.t (aN.t (aJ.t (ac.t (a4.t (aB.t (aC.t aj)))))))))))).raw (bf.ext (aP.t (aO.t (aM.t (aL.t (aI.t (aN.t (aJ.t (ac.t (a4.t (aB.t (aC.t aj)))))))))))).raw xq xq) ?_)))))))
  rintro _ e0 bb ⟨fa, d6, rfl, c5, dI⟩
  refine zzg 66 38 _ fun _ _ aG dJ => Post.mono (k_r4Make dJ (b5.ext (aj.t (bb.t aG))).raw (b5.ext (aj.t (bb.t aG))).raw xq) ?_
  rintro _ eS aY ⟨d9, eH, rfl, dL, c8⟩
  refine zzg 67 68 _ fun _ _ aw cD => Post.mono (k_r4Mul cD (c5.ext (aG.t (aY.t aw))).raw (dI.ext (aG.t (aY.t aw))).raw (dL.ext aw).raw (c8.ext aw).raw xq xq) ?_
  rintro _ ef bw ⟨e7, eg, rfl, dq, dB⟩
  refine zzg 69 187 _ fun _ _ aZ cK => Post.mono (k_wide (k := k) cK (dq.ext aZ).raw (dB.ext aZ).raw xq xq) ?_
  rintro _ bW bt ⟨bD, bM, rfl, cC, dn⟩
  refine zzi ⟨32, bD.cs ++ bM.cs⟩ ty32 ?_
  refine zzw ?_
  refine zzo ?_
  have bY : RatN bW bD (Nt.gr k (Nt.csL k j tl ql)) (((40 + 40 + 1) + 3 + 1) + 70) := zRc cC (congrArg (Nt.gr k) (Nt.cs_t (j := j) (F := (((1 : Int) : Rat) / ((Nt.coD j : Int) : Rat))) ht0 htt bi bh rfl).1)
  have bU : RatN bW bM (Nt.gr k (Nt.csH k j th qh)) (((40 + 40 + 1) + 3 + 1) + 70) := zRc dn (congrArg (Nt.gr k) (Nt.cs_t (j := j) (F := (((1 : Int) : Rat) / ((Nt.coD j : Int) : Rat))) ht0 htt bi bh rfl).2)
  refine zzf (zza 25 (zI j) (zyp 26 (x := zI (IntKind.i64.wrap ((j : Int) + 1))) (zI (j + 1 : Nat)) (eqI xk) (zza 9 (zI (j + 1 : Nat)) (zzw ?_))))
  have hne : j ≤ 1 ∨ 2 ≤ th := by have h8 := of_decide_eq_false hs90; omega
  have hgo := hI.go hQ hne (.inl ⟨ad, rfl, rfl⟩)
  have hb9 := hgo.1.bd hq0 hp
  have hw9 := Nt.csW_le hk
  have hg0 := hgo.1.t.t0
  have hg1 := hgo.1.t.t1
  have hgt := hgo.1.t.tt
  have hg2 := hgo.1.t.t2
  have hmm := hgo.2
  refine ⟨_, ?_, _, by exact zzu _ _ _, j + 1, bD, bM, bn, bq, (Nt.csL k j tl ql), (Nt.csH k j th qh), (cc + tl), (dd + th), rfl, hgo.1, rfl, (aJ.t (ac.t (a4.t (aB.t (aC.t (aj.t (bb.t (aG.t (aY.t (aw.t (bw.t (aZ.t bt.ext)))))))))))), (RatN.limG bY xq xq hk), (RatN.limG bU xq xq hk), (RatN.limG (cl.ext (aB.t (aC.t (aj.t (bb.t (aG.t (aY.t (aw.t (bw.t (aZ.t bt.ext)))))))))) xq xq hk), (RatN.limG (b4.ext (aB.t (aC.t (aj.t (bb.t (aG.t (aY.t (aw.t (bw.t (aZ.t bt.ext)))))))))) xq xq hk)⟩
  omega
 have av : Int.tmod (j : Int) 2 = (j : Int) % 2 := Int.tmod_eq_emod_of_nonneg xq
 have ad : ¬ j % 2 = 0 := by have h9 := a7; rw [av] at h9; simp at h9; omega
 refine zzf (zzh 50 (.v (.agg #[.bool y1.s, y1.m.v, y1.d.v, .bool y2.s, y2.m.v, y2.d.v])) ty32 zze (zzh 51 (.v (.agg #[.bool x1.s, x1.m.v, x1.d.v, .bool x2.s, x2.m.v, x2.d.v])) ty32 zze (zzg 52 145 _ fun _ _ ak cN => Post.mono (k_r4Sub cN (f2.ext ak).raw (f3.ext ak).raw (f0.ext ak).raw (f1.ext ak).raw xq xq) ?_)))
 rintro _ cf aU ⟨bF, bo, rfl, dE, df⟩
 refine zzi ⟨32, bF.cs ++ bo.cs⟩ ty32 ?_
 refine zzb (zzd ?_)
 have bV : RatN cf bF (Nt.gr k (cc - th)) (40 + 40 + 2) := zRc dE ((Nt.cs_s htt hcd).1)
 have b7 : RatN cf bo (Nt.gr k (dd - tl)) (40 + 40 + 2) := zRc df ((Nt.cs_s htt hcd).2)
 refine zzf (zza 53 (zI j) (zyp 54 (x := zI (IntKind.i64.wrap ((2 : Int) * (j : Int)))) (zI (2 * j : Nat)) (eqI xk) (zyp 55 (x := zI (IntKind.i64.wrap (((2 * j : Nat) : Int) + 1))) (zI (((2 * j) + 1 : Nat) : Int)) (eqI xk) (zza 56 (zI j) (zyp 57 (x := zI (IntKind.i64.wrap ((2 : Int) * (j : Int)))) (zI (2 * j : Nat)) (eqI xk) (zyp 58 (x := zI (IntKind.i64.wrap (((2 * j : Nat) : Int) + 2))) (zI (((2 * j) + 2 : Nat) : Int)) (eqI xk) (zqI 59 (show (IntKind.i64.wrap (((2 * j + 1 : Nat) : Int) * ((2 * j + 2 : Nat) : Int))) = (Nt.coD j) from hD2.1) (zzg 60 75 _ fun _ _ aF dr => Post.mono (k_rqFrac dr (a := 1) (b := (Nt.coD j)) xq xq xq xq) ?_))))))))
 rintro _ ew au ⟨bL, rfl, b8⟩
 refine zzj 10 ⟨26, zw3⟩ (zzi ⟨26, bL.cs⟩ ty26 ?_)
 refine zzb (zzy [0, 0, 3, 0, 0, 31, 63, 0, 255, 511] [(0, []), (1, []), (3, []), (4, []), (7, []), (2, []), (5, []), (6, []), (8, []), (9, [])] xj xj (zzh 61 (.v (.agg #[.bool x1.s, x1.m.v, x1.d.v, .bool x2.s, x2.m.v, x2.d.v])) ty32 zze (zzh 62 (.v (.agg #[.bool an.s, an.m.v, an.d.v, .bool am.s, am.m.v, am.d.v])) ty32 zze (zzh 64 (.v (bL.v)) ty26 zze (zzh 65 (.v (bL.v)) ty26 zze (zza 68 (zI k) (zzg 63 68 _ fun _ _ ai cS => Post.mono (k_r4Mul cS (f0.ext (ak.t (aU.t (aF.t (au.t ai))))).raw (f1.ext (ak.t (aU.t (aF.t (au.t ai))))).raw (bg.ext (aP.t (aO.t (aM.t (aL.t (aI.t (aN.t (aJ.t (ak.t (aU.t (aF.t (au.t ai)))))))))))).raw (bf.ext (aP.t (aO.t (aM.t (aL.t (aI.t (aN.t (aJ.t (ak.t (aU.t (aF.t (au.t ai)))))))))))).raw xq xq) ?_)))))))
 rintro _ eX a5 ⟨eU, eL, rfl, cY, c4⟩
 refine zzg 66 38 _ fun _ _ ax cE => Post.mono (k_r4Make cE (b8.ext (ai.t (a5.t ax))).raw (b8.ext (ai.t (a5.t ax))).raw xq) ?_
 rintro _ ey aS ⟨eM, eY, rfl, ds, dk⟩
 refine zzg 67 68 _ fun _ _ ap c6 => Post.mono (k_r4Mul c6 (cY.ext (ax.t (aS.t ap))).raw (c4.ext (ax.t (aS.t ap))).raw (ds.ext ap).raw (dk.ext ap).raw xq xq) ?_
 rintro _ ei bl ⟨eC, eR, rfl, c2, da⟩
 refine zzg 69 187 _ fun _ _ a6 cO => Post.mono (k_wide (k := k) cO (c2.ext a6).raw (da.ext a6).raw xq xq) ?_
 rintro _ cj br ⟨bG, bm, rfl, dM, cz⟩
 refine zzi ⟨32, bG.cs ++ bm.cs⟩ ty32 ?_
 refine zzw ?_
 refine zzo ?_
 have ce : RatN cj bG (Nt.gr k (Nt.csL k j tl ql)) (((40 + 40 + 1) + 3 + 1) + 70) := zRc dM (congrArg (Nt.gr k) (Nt.cs_t (j := j) (F := (((1 : Int) : Rat) / ((Nt.coD j : Int) : Rat))) ht0 htt bi bh rfl).1)
 have bR : RatN cj bm (Nt.gr k (Nt.csH k j th qh)) (((40 + 40 + 1) + 3 + 1) + 70) := zRc cz (congrArg (Nt.gr k) (Nt.cs_t (j := j) (F := (((1 : Int) : Rat) / ((Nt.coD j : Int) : Rat))) ht0 htt bi bh rfl).2)
 refine zzf (zza 25 (zI j) (zyp 26 (x := zI (IntKind.i64.wrap ((j : Int) + 1))) (zI (j + 1 : Nat)) (eqI xk) (zza 9 (zI (j + 1 : Nat)) (zzw ?_))))
 have hne : j ≤ 1 ∨ 2 ≤ th := by have h8 := of_decide_eq_false hs90; omega
 have hgo := hI.go hQ hne (.inr ⟨ad, rfl, rfl⟩)
 have hb9 := hgo.1.bd hq0 hp
 have hw9 := Nt.csW_le hk
 have hg0 := hgo.1.t.t0
 have hg1 := hgo.1.t.t1
 have hgt := hgo.1.t.tt
 have hg2 := hgo.1.t.t2
 have hmm := hgo.2
 refine ⟨_, ?_, _, by exact zzu _ _ _, j + 1, bG, bm, bF, bo, (Nt.csL k j tl ql), (Nt.csH k j th qh), (cc - th), (dd - tl), rfl, hgo.1, rfl, (aJ.t (ak.t (aU.t (aF.t (au.t (ai.t (a5.t (ax.t (aS.t (ap.t (bl.t (a6.t br.ext)))))))))))), (RatN.limG ce xq xq hk), (RatN.limG bR xq xq hk), (RatN.limG (bV.ext (aF.t (au.t (ai.t (a5.t (ax.t (aS.t (ap.t (bl.t (a6.t br.ext)))))))))) xq xq hk), (RatN.limG (b7.ext (aF.t (au.t (ai.t (a5.t (ax.t (aS.t (ap.t (bl.t (a6.t br.ext)))))))))) xq xq hk)⟩
 omega
set_option maxHeartbeats 2000000 in
theorem k_r10tight {u w : World} {a1 a2 : RL} {a b : Int} {k m : Nat} (d : Dat u w) (ha1 : RatN u a1 (Nt.gr m a) 40) (ha2 : RatN u a2 (Nt.gr m b) 40) (hkm : k ≤ m) (hk : k ≤ 256) (hm : m ≤ 800) : Calls Tryz.prog 103 #[IV a1 a2, .int .i64 (k : Int)] w (Post u w fun v u' => ∃ r1 r2 : RL, v = .tuple #[IV r1 r2, .bool (!(Nt.cmpS (a / Nt.u2 (m - k)) (b / Nt.u2 (m - k)) != 0))] ∧ ((Nt.cmpS (a / Nt.u2 (m - k)) (b / Nt.u2 (m - k)) != 0) = false → RatN u' r1 (Nt.gr k (a / Nt.u2 (m - k))) 200 ∧ RatN u' r2 (Nt.gr k (a / Nt.u2 (m - k) + 1)) 200)) := by
 refine zzl (args := [.agg #[.bool a1.s, a1.m.v, a1.d.v, .bool a2.s, a2.m.v, a2.d.v], .int .i64 k]) Tryz.func103 rfl Tryz.ntmps103 (rs := [.cell 4 32, .tmp 5]) Tryz.results103 (le_b rfl) (le_b rfl) d ?_
 refine sq9 (zzj 2 ⟨32, a1.cs ++ a2.cs⟩ (zzj 4 ⟨32, zw6⟩ (zza 5 (zB false) (zzb (sq9 (zza 10 (zI k) (zzg 11 27 _ fun _ _ aH a4 => Post.mono (k_unit (k := k) a4 xq) ?_)))))))
 rintro _ u14 aG ⟨ai, rfl, au⟩
 refine zzj 6 ⟨26, zw3⟩ (zzi ⟨26, ai.cs⟩ ty26 ?_)
 refine zzb (zzd (zzy [0, 1, 0, 7, 15, 0, 32, 0, 255, 511, 0, 0, 4095, 8191] [(0, []), (1, []), (2, []), (5, []), (6, []), (7, []), (10, []), (11, []), (3, []), (4, []), (8, []), (9, []), (12, []), (13, [])] xj xj (zza 12 (.adr 2 0) (zzh 13 (.v (a1.v)) ty26 zze (zzh 14 (.v (ai.v)) ty26 zze (zza 17 (.adr 2 3) (zzh 18 (.v (a2.v)) ty26 zze (zzh 19 (.v (ai.v)) ty26 zze (zzj 7 ⟨24, [.bool false, .slice none 0 0]⟩ (zzj 8 ⟨24, [.bool false, .slice none 0 0]⟩ (zzg 15 25 _ fun _ _ ag aX => Post.mono (k_rqMul aX (ha1.ext (aH.t (aG.t ag))).raw (au.ext ag).raw xq xq) ?_)))))))))))
 rintro _ u20 ar ⟨r18, rfl, aQ⟩
 refine zzg 16 87 _ fun _ _ ak aO => Post.mono (k_floor aO (aQ.ext ak).raw xq) ?_
 rintro _ u26 ap ⟨aa, rfl, aJ⟩
 refine zzg 20 25 _ fun _ _ aj aT => Post.mono (k_rqMul aT (ha2.ext (aH.t (aG.t (ag.t (ar.t (ak.t (ap.t aj))))))).raw (au.ext (ag.t (ar.t (ak.t (ap.t aj))))).raw xq xq) ?_
 rintro _ a3 ay ⟨r30, rfl, aW⟩
 refine zzg 21 87 _ fun _ _ aw aL => Post.mono (k_floor aL (aW.ext aw).raw xq) ?_
 rintro _ aE ax ⟨aB, rfl, aS⟩
 refine zzi ⟨24, aa.cs⟩ ty24 ?_
 refine zzi ⟨24, aB.cs⟩ ty24 ?_
 refine zzb (zzd (zzd ?_))
 have ae : IntN aE aa (a / Nt.u2 (m - k)) ((40 + (k / 32 + 2) + 1) + 1) := by have h9 := (aJ.ext (aj.t (ay.t (aw.t ax.ext)))); rw [Nt.flr_gr hkm] at h9; exact h9
 have aA : IntN aE aB (b / Nt.u2 (m - k)) ((40 + (k / 32 + 2) + 1) + 1) := by have h9 := aS; rw [Nt.flr_gr hkm] at h9; exact h9
 refine zzf (zzh 22 (.v (aa.v)) ty24 zze (zzh 23 (.v (aB.v)) ty24 zze (zzg 24 97 _ fun _ _ ah aZ => Post.mono (k_riCompare aZ (ae.ext ah).raw (aA.ext ah).raw xq xq) ?_)))
 rintro _ u44 an rfl
 refine zza 25 (zB ((Nt.cmpS (a / Nt.u2 (m - k)) (b / Nt.u2 (m - k))) != 0)) (zzb (zzt (b := (Nt.cmpS (a / Nt.u2 (m - k)) (b / Nt.u2 (m - k))) != 0) xj (fun ab => ?_) (fun ab => ?_)))
 ·refine sq9 (zza 26 (.v (.agg #[.bool false, .slice none 0 0, .slice none 0 0, .bool false, .slice none 0 0, .slice none 0 0])) (zzi ⟨32, zw6⟩ ty32 ?_))
  refine zza 5 (zB false) (zzb (zzn (zzv (ret0 [.agg #[.bool false, .slice none 0 0, .slice none 0 0, .bool false, .slice none 0 0, .slice none 0 0], .bool false] ⟨zzq ty32 zze, zzp, trivial⟩ fun u48 e49 => ?_))))
  refine ⟨(⟨false, ⟨none, 0, 0⟩, ⟨none, 0, 0⟩⟩ : RL), (⟨false, ⟨none, 0, 0⟩, ⟨none, 0, 0⟩⟩ : RL), ?_, fun h8 => absurd (h8.symm.trans ab) xw⟩
  rw [ab]; rfl
 refine zzr (zzo ?_)
 refine sq9 (zzh 27 (.v (aa.v)) ty24 zze (zxw 28 ⟨104, [.int .u32 1]⟩ 1 (fun am u51 aq aF => ?_)))
 refine zza 29 (.v (.agg #[.bool aa.s, aa.m.v, .slice (some ⟨am, 0, none⟩) 1 1])) (zzj 9 ⟨26, zw3⟩ (zzi ⟨26, aa.cs ++ [.slice (some ⟨am, 0, none⟩) 1 1]⟩ ty26 ?_))
 refine zzb (zzd (zzy [0, 0, 3, 0, 7, 31, 0, 127, 255, 511, 1023] [(0, []), (1, []), (3, []), (6, []), (2, []), (4, []), (5, []), (7, []), (8, []), (9, []), (10, [])] xj xj (zzh 30 (.v (.agg #[.bool aa.s, aa.m.v, .slice (some ⟨am, 0, none⟩) 1 1])) ty26 zze (zzh 31 (.v (ai.v)) ty26 zze (zzh 33 (.v (.agg #[.bool aa.s, aa.m.v, .slice (some ⟨am, 0, none⟩) 1 1])) ty26 zze (zzh 36 (.v (ai.v)) ty26 zze (zzg 32 88 _ fun _ _ af aM => Post.mono (k_rqOver aM (rat_mk2 (s := aa.s) (ae.ext (ah.t (an.t (aq.trans af)))).raw ((one_data aF).ext af).raw) (au.ext (ag.t (ar.t (ak.t (ap.t (aj.t (ay.t (aw.t (ax.t (ah.t (an.t (aq.trans af)))))))))))).raw xq xq) ?_)))))))
 rintro _ u57 az ⟨ad, rfl, aV⟩
 refine zzg 34 30 _ fun _ _ av aU => Post.mono (k_rqOf aU (z := 1) xq xq) ?_
 rintro _ u63 ao ⟨r61, rfl, aY⟩
 refine zzg 35 57 _ fun _ _ al aR => Post.mono (k_rqAdd aR (rat_mk2 (s := aa.s) (ae.ext (ah.t (an.t (aq.t (af.t (az.t (av.t (ao.t al)))))))).raw ((one_data aF).ext (af.t (az.t (av.t (ao.t al))))).raw) (aY.ext al).raw xq xq) ?_
 rintro _ u69 aD ⟨r67, rfl, a0⟩
 refine zzg 37 88 _ fun _ _ aC aP => Post.mono (k_rqOver aP (a0.ext aC).raw (au.ext (ag.t (ar.t (ak.t (ap.t (aj.t (ay.t (aw.t (ax.t (ah.t (an.t (aq.t (af.t (az.t (av.t (ao.t (al.t (aD.t aC)))))))))))))))))).raw xq xq) ?_
 rintro _ u75 aN ⟨ac, rfl, aK⟩
 refine zza 38 (.v (.agg #[.bool ad.s, ad.m.v, ad.d.v, .bool ac.s, ac.m.v, ac.d.v])) (zzi ⟨32, ad.cs ++ ac.cs⟩ ty32 ?_)
 refine zza 5 (zB true) (zzc 39 [(4, .adr 4 0), (5, zB true)] [(4, ⟨32, ad.cs ++ ac.cs⟩)] (zzn (ret0 [.agg #[.bool ad.s, ad.m.v, ad.d.v, .bool ac.s, ac.m.v, ac.d.v], .bool true] ⟨zzq ty32 zze, zzp, trivial⟩ fun u78 aI => ?_)))
 refine ⟨ad, ac, by rw [ab]; rfl, fun _ => ⟨RatN.more (K := ((max (max ((40 + (k / 32 + 2) + 1) + 1) 1) 1) + (k / 32 + 2) + 2)) ?_ xq, RatN.more (K := (((max (max ((40 + (k / 32 + 2) + 1) + 1) 1) 1) + 2 + 2) + (k / 32 + 2) + 2)) ?_ xq⟩⟩
 ·have h9 := (aV.ext (av.t (ao.t (al.t (aD.t (aC.t (aN.t aI)))))))
  rw [Nt.tight_lo] at h9
  exact h9
 have h9 := (aK.ext aI)
 rw [Nt.tight_hi] at h9
 exact h9
theorem Nt.not_f {b : Bool} (h : (!b) = false) : b = true := by cases b with | true => rfl | false => exact absurd h xw
theorem Nt.not_t {b : Bool} (h : (!b) = true) : b = false := by cases b with | false => rfl | true => exact absurd h xw
def IfI (u : World) (ok : Bool) (r1 r2 : RL) (x y : Rat) : Prop := ok = true → RatN u r1 x 200 ∧ RatN u r2 y 200
theorem IfI.ext {u u' : World} {ok : Bool} {r1 r2 : RL} {x y : Rat} (h : IfI u ok r1 r2 x y) (e : Ext u u') : IfI u' ok r1 r2 x y := fun k => ⟨(h k).1.ext e, (h k).2.ext e⟩
theorem k_r10bad {u w : World} {n : Int} (d : Dat u w) : Calls Tryz.prog 85 #[.int .i64 n] w (Post u w fun v _ => v = .bool (decide (n < 0 ∨ 256 < n))) := by
 refine zzl (args := [.int .i64 n]) Tryz.func85 rfl Tryz.ntmps85 (rs := [.tmp 2]) Tryz.results85 (le_b rfl) (le_b rfl) d ?_
 refine sq9 (zza 2 (zB false) (zzb (sq9 (zza 3 (zI n) (zza 4 (zB (decide (n < 0))) ?_)))))
 rcases Bool.eq_false_or_eq_true (decide (n < 0)) with hs11 | hs11
 ·refine zyp 5 (x := zB (decide (n < 0))) (zB true) (by rw [hs11]) ?_
  have qhs11 := of_decide_eq_true hs11
  refine zzm 6 (uw 2 false true 5) (zzm 7 (uw 2 false true 5) (zza 8 (zB true) (zza 2 (zB true) (zzb (zzn (ret0 [.bool true] ⟨zzp, trivial⟩ fun u12 e13 => ?_))))))
  show Value.bool _ = Value.bool _
  congr 1
  symm
  exact decide_eq_true (.inl (of_decide_eq_true hs11))
 refine zyp 5 (x := zB (decide (n < 0))) (zB false) (by rw [hs11]) ?_
 have qhs11 := of_decide_eq_false hs11
 refine zza 6 (zI n) ?_ (hw := w1 2 false 5)
 refine zza 7 (zB (decide ((256 : Int) < n))) ?_ (hw := w1 2 false 5)
 refine zza 8 (zB (decide ((256 : Int) < n))) (zza 2 (zB (decide ((256 : Int) < n))) (zzb (zzn (ret0 [.bool (decide ((256 : Int) < n))] ⟨zzp, trivial⟩ fun u14 e15 => ?_))))
 show Value.bool _ = Value.bool _
 congr 1
 symm
 have h9 := of_decide_eq_false hs11
 by_cases h8 : 256 < n
 ·rw [decide_eq_true h8]; exact decide_eq_true (.inr h8)
 rw [decide_eq_false h8]; exact decide_eq_false (fun h => h.elim h9 h8)
theorem k_r10point {u w : World} {r : RL} {q : Rat} {K k : Nat} (d : Dat u w) (hr : RatN u r q K) (hk : k ≤ 256) (hK : K ≤ 10) : Calls Tryz.prog 105 #[r.v, .int .i64 (k : Int)] w (Post u w fun v u' => ∃ r1 r2 : RL, v = IV r1 r2 ∧ RatN u' r1 (Nt.dnQ q k) 80 ∧ RatN u' r2 (-Nt.dnQ (-q) k) 80) := by
 refine zzl (args := [r.v, .int .i64 k]) Tryz.func105 rfl Tryz.ntmps105 (rs := [.cell 4 32]) Tryz.results105 (le_b rfl) (le_b rfl) d ?_
 refine sq9 (zzj 2 ⟨26, r.cs⟩ (zzj 4 ⟨32, zw6⟩ (zzb (sq9 (zzh 8 (.v (r.v)) ty26 zze (zzh 9 (.v (r.v)) ty26 zze (zzg 10 38 _ fun _ _ ac ag => Post.mono (k_r4Make ag (hr.ext ac).raw (hr.ext ac).raw xq) ?_)))))))
 rintro _ u16 g17 ⟨r12, r14, rfl, aj, af⟩
 refine zza 11 (zI k) (zzg 12 186 _ fun _ _ ad ae => Post.mono (k_r4RoundG (k := k) xq ae (aj.ext ad).raw (af.ext ad).raw xq) ?_)
 rintro _ u23 g24 ⟨aa, ab, rfl, ah⟩
 refine zza 7 (.v (.tuple #[.agg #[.bool aa.s, aa.m.v, aa.d.v, .bool ab.s, ab.m.v, ab.d.v], .int .i64 (Nt.rndE (k : Int))])) (zza 13 (.v (.agg #[.bool aa.s, aa.m.v, aa.d.v, .bool ab.s, ab.m.v, ab.d.v])) (zza 14 (zI (Nt.rndE (k : Int))) (zzj 5 ⟨32, zw6⟩ (zzi ⟨32, aa.cs ++ ab.cs⟩ ty32 ?_))))
 refine zza 6 (zI (Nt.rndE (k : Int))) (zzb (sq9 (zzh 15 (.v (.agg #[.bool aa.s, aa.m.v, aa.d.v, .bool ab.s, ab.m.v, ab.d.v])) ty32 zze (zzi ⟨32, aa.cs ++ ab.cs⟩ ty32 ?_))))
 refine zzb (zzn (ret0 [.agg #[.bool aa.s, aa.m.v, aa.d.v, .bool ab.s, ab.m.v, ab.d.v]] ⟨zzq ty32 zze, trivial⟩ fun u26 ai => ?_))
 have h9 := (ah.ext ai)
 rw [Nt.rnd_pt hk] at h9
 exact ⟨aa, ab, rfl, RatN.more h9.1 xq, RatN.more h9.2 xq⟩
end Go.Proofs.YtbolmkfphieogaaGreat
namespace Go.Proofs.YtbolmkfphieogaaGreat
namespace Nt
theorem rt_scale (n k : Nat) : (((2 ^ k : Nat) : Int) : Rat) ^ n = ((2 ^ (n * k) : Nat) : Rat) := by
 have e : (((2 ^ k : Nat) : Int) : Rat) = ((2 ^ k : Nat) : Rat) := rfl
 rw [e, ← rat_pow_cast, ← Nat.pow_mul, Nat.mul_comm]
theorem flr_rtD {q : Rat} {n k : Nat} (hq : 0 ≤ q) : (flr (q * (((2 ^ k : Nat) : Int) : Rat) ^ n)).natAbs = rtD q n k := by
 have h2 : 0 ≤ q.num := Rat.num_nonneg.2 hq
 have hd := q.den_pos
 have e : q * (((2 ^ k : Nat) : Int) : Rat) ^ n = mkRat ((q.num.natAbs * 2 ^ (n * k) : Nat) : Int) q.den := by
  rw [rt_scale, ← mk_div]
  have hdr := cast_pos hd
  have h3 := q_den hq
  have e1 : (((q.num.natAbs * 2 ^ (n * k) : Nat) : Int) : Rat) = (q.num.natAbs : Rat) * ((2 ^ (n * k) : Nat) : Rat) := by
   have : (((q.num.natAbs * 2 ^ (n * k) : Nat) : Int) : Rat) = ((q.num.natAbs * 2 ^ (n * k) : Nat) : Rat) := rfl
   rw [this, Rat.natCast_mul]
  rw [e1, ← h3]
  have e2 : ((q.den : Int) : Rat) = (q.den : Rat) := rfl
  rw [e2]
  generalize ((2 ^ (n * k) : Nat) : Rat) = P at *
  generalize (q.den : Rat) = D at *
  have hD : D ≠ 0 := by grind
  grind
 rw [e, flr_mk hd, ← Int.natCast_ediv, Int.natAbs_natCast]
 rfl
theorem rt_cmp {q : Rat} {n k : Nat} (hq : 0 ≤ q) (hn : 1 ≤ n) : decide (cmpQ (mkRat ((rtN q n k : Nat) : Int) 1 ^ n) (q * (((2 ^ k : Nat) : Int) : Rat) ^ n) < 0) = true ↔ ¬ rtX q n k := by
 rw [cmpQ_lt, decide_eq_true_iff, mk_one, rt_scale]
 obtain ⟨h1, h2, h3⟩ := rt_tight (k := k) hq hn
 have h4 := gr_pow k (rtN q n k) n
 have e0 : (((rtN q n k : Nat) : Int) : Rat) ^ n = ((rtN q n k ^ n : Nat) : Rat) := by
  have : (((rtN q n k : Nat) : Int) : Rat) = ((rtN q n k : Nat) : Rat) := rfl
  rw [this, rat_pow_cast]
 rw [e0, ← h4, ← h3]
 have hp := cast_pos (Nat.pow_pos (n := n * k) (show 0 < 2 by decide))
 generalize gr k (rtN q n k : Int) ^ n = y at *
 generalize ((2 ^ (n * k) : Nat) : Rat) = P at *
 constructor
 ·intro h e; rw [e] at h; grind
 intro h
 by_cases h5 : y * P < q * P
 ·exact h5
 have h5 := Rat.not_lt.1 h5
 have := Rat.le_of_mul_le_mul_right h5 hp
 exact absurd (Rat.le_antisymm h1 this) h
theorem rt_lo (k : Nat) (z : Int) : mkRat z 1 / (((2 ^ k : Nat) : Int) : Rat) = gr k z := by rw [mk_one]; rfl
theorem rt_hi (k : Nat) (z : Int) : (mkRat z 1 + ((1 : Int) : Rat)) / (((2 ^ k : Nat) : Int) : Rat) = gr k (z + 1) := by
 rw [mk_one, ← Rat.intCast_add]; rfl
def rootB (q : Rat) (n b : Int) : Prop := 0 ≤ q ∧ 0 ≤ b ∧ b ≤ 256 ∧ 1 ≤ n ∧ n ≤ 64
instance (q : Rat) (n b : Int) : Decidable (rootB q n b) := by unfold rootB; infer_instance
end Nt
open Go.RowKit
theorem k_rnBitLen {u w : World} {x : Sl} {N K : Nat} (d : Dat u w) (h : NatV u x N K) (hK : K ≤ 500000000) : Calls Tryz.prog 163 #[x.v] w (Post u w fun v _ => v = .int .i64 ((Nt.bitl N : Nat) : Int)) := by
 obtain ⟨a, a1, a2, a3, a4⟩ := h
 refine (rBitLen_any _ _ _ _ _ (a1.ext d.ext) a2 xq).mono fun e w' ⟨he, hb⟩ => ?_
 rw [a4, Int.toNat_natCast] at he
 exact post_below d he hb
set_option maxHeartbeats 1000000 in
theorem k_rnPow {u w : World} {x : Sl} {M K n : Nat} (d : Dat u w) (hx : NatV u x M K) (hn : n ≤ 64) (hK : K ≤ 1000000) : Calls Tryz.prog 165 #[x.v, .int .i64 (n : Int)] w (Post u w fun v u' => ∃ y : Sl, v = .tuple #[y.v, .int .i64 0] ∧ NatN u' y (M ^ n) (n * K + 1)) := by
 refine zzl (args := [x.v, .int .i64 n]) Tryz.func165 rfl Tryz.ntmps165 (rs := [.tmp 4, .tmp 5]) Tryz.results165 (le_b rfl) (le_b rfl) d ?_
 refine sq9 (zza 4 (.v (.slice none 0 0)) (zza 5 (zI 0) (zzb (zzd (sq9 (zza 7 (zI n) (zza 8 (zB (decide ((n : Int) < 0))) (zqB 9 (show (decide ((n : Int) < 0)) = false from decide_eq_false xq) (zza 10 (zI n) ?_ (hw := w1 2 false 9))))))))))
 refine zza 11 (zB (decide ((64 : Int) < (n : Int)))) ?_ (hw := w1 2 false 9)
 refine zza 12 (zB (decide ((64 : Int) < (n : Int)))) (zzb (zzt (b := decide ((64 : Int) < (n : Int))) xj (fun hb => ?_) (fun hb => ?_)))
 ·exact absurd hb (by rw [show (decide ((64 : Int) < (n : Int))) = false from decide_eq_false xq]; decide)
 clear hb
 refine zzr (zzo ?_)
 refine sq9 (zxw 13 ⟨104, [.int .u32 1]⟩ 1 (fun ac am ah ao => ?_))
 refine zza 6 (.v (.slice (some ⟨ac, 0, none⟩) 1 1)) (zzb (zzd (zzs (zym (I := fun af S' u' => ∃ (m : Nat) (i : Nat) (y : Sl), (af = m) ∧ (m + i = n) ∧ (m ≤ n) ∧ (S' = St.of 22 [(0, .v (x.v)), (1, zI m), (6, .v (y.v))] []) ∧ (Ext am u') ∧ (NatN u' y (M ^ i) (i * K + 1))) (fun m S u1 u2 e h => by obtain ⟨m, i, y, hm, p0, p1, hS, hE, f0⟩ := h; exact ⟨m, i, y, hm, p0, p1, hS, hE.trans e, f0.ext e⟩) _ yz ⟨n, 0, (⟨some ⟨ac, 0, none⟩, 1, 1⟩ : Sl), rfl, rfl, xq, rfl, (Ext.refl _), (by rw [Nat.pow_zero]; exact NatN.more (one_data ao) xq)⟩ ?_))))
 rintro af _ u16 ⟨m, i, y, al, hmi, hmn, rfl, ae, f0⟩
 have hsi : i * K ≤ 64 * K := Nat.mul_le_mul_right _ xq
 refine zzd (sq9 (zza 14 (zI m) (zza 15 (zB (decide ((0 : Int) < (m : Int)))) (zzb (zzt (b := decide ((0 : Int) < (m : Int))) xj (fun aa => ?_) (fun aa => ?_))))))
 ·have qhb17 := of_decide_eq_true aa
  refine zzr (zzo ?_)
  refine zzd (zzs (zzf (zza 18 (.v (y.v)) (zza 19 (.v (x.v)) (zzg 20 174 _ fun _ _ ab an => Post.mono (k_rnMul an (f0.ext ab).raw (hx.ext (ah.trans (ae.trans ab))) xq xq) ?_)))))
  rintro _ u21 ak ⟨ad, rfl, aj⟩
  refine zza 6 (.v (ad.v)) (zzw ?_)
  refine zzo (zzf (zza 16 (zI m) (zyp 17 (x := zI (IntKind.i64.wrap ((m : Int) - 1))) (zI (m - 1 : Nat)) (eqI xk) (zza 1 (zI (m - 1 : Nat)) (zzw ?_)))))
  have hsm : (i + 1) * K = i * K + K := Nat.succ_mul _ _
  refine ⟨_, ?_, _, by exact zzu _ _ _, m - 1, i + 1, ad, rfl, xq, xq, rfl, (ae.t (ab.t ak.ext)), (by rw [Nat.pow_succ]; exact NatN.more aj xq)⟩
  omega
 have qhb17 := of_decide_eq_false aa
 refine zyb (zzo (sq9 (zza 21 (.v (y.v)) (zza 4 (.v (y.v)) (zza 5 (zI 0) (zzb (zzn (ret0 [y.v, .int .i64 0] ⟨zzp, zzp, trivial⟩ fun u24 ag => ?_))))))))
 have ai : m = 0 := by have h9 := of_decide_eq_false aa; omega
 subst ai
 have hin : i = n := by omega
 subst hin
 exact ⟨y, rfl, (f0.ext ag)⟩
set_option maxHeartbeats 2000000 in
theorem k_rnRoot {u w : World} {x : Sl} {N n K : Nat} (d : Dat u w) (hx : NatV u x N K) (hn1 : 1 ≤ n) (hn : n ≤ 64) (hK : K ≤ 2000) : Calls Tryz.prog 86 #[x.v, .int .i64 (n : Int)] w (Post u w fun v u' => ∃ y : Sl, v = .tuple #[y.v, .int .i64 0] ∧ NatN u' y (Nt.irt n N) K) := by
 have hB : Nt.bitl N ≤ 32 * K := Nt.bitl_dl hx.size
 have hdv := Nat.div_le_self (Nt.bitl N) n
 obtain ⟨s, hs⟩ : ∃ s, Nt.bitl N / n = s := ⟨_, rfl⟩
 rw [hs] at hdv
 refine zzl (args := [x.v, .int .i64 n]) Tryz.func86 rfl Tryz.ntmps86 (rs := [.tmp 4, .tmp 5]) Tryz.results86 (le_b rfl) (le_b rfl) d ?_
 refine sq9 (zza 4 (.v (.slice none 0 0)) (zza 5 (zI 0) (zzb (zzd (sq9 (zza 11 (zI n) (zza 12 (zB (decide ((n : Int) < 1))) (zqB 13 (show (decide ((n : Int) < 1)) = false from decide_eq_false xq) (zza 14 (zI n) ?_ (hw := w1 2 false 13))))))))))
 refine zza 15 (zB (decide ((64 : Int) < (n : Int)))) ?_ (hw := w1 2 false 13)
 refine zza 16 (zB (decide ((64 : Int) < (n : Int)))) (zzb (zzt (b := decide ((64 : Int) < (n : Int))) xj (fun hb => ?_) (fun hb => ?_)))
 ·exact absurd hb (by rw [show (decide ((64 : Int) < (n : Int))) = false from decide_eq_false xq]; decide)
 clear hb
 refine zzr (zzo ?_)
 refine sq9 (zza 6 (.v (.slice none 0 0)) (zzb (zzd (sq9 (zza 17 (.v (x.v)) (zzg 18 163 _ fun _ _ ap au => Post.mono (k_rnBitLen au (hx.ext ap) xq) ?_))))))
 rintro _ az aD rfl
 refine zza 19 (zI n) (sy_quo 20 (n := ((Nt.bitl N : Nat) : Int)) (m := (n : Int)) ((s : Nat) : Int) xq (by rw [Int.tdiv_eq_ediv_of_nonneg xq, ← Int.natCast_ediv, hs]; exact IntWalk.i64_in _ xq) ?_)
 refine zza 7 (zI s) (zzb (zzs (zym (I := fun ao S' u' => ∃ (k : Nat) (out : Nat) (y : Sl) (z : Int), (ao = k) ∧ (Nt.BitI n N k out) ∧ (k ≤ s + 1) ∧ (z = (k : Int) - 1) ∧ (S' = St.of 42 [(0, .v (x.v)), (1, zI n), (6, .v (y.v)), (7, zI z)] []) ∧ (Ext az u') ∧ (NatN u' y out K)) (fun m S u1 u2 e h => by obtain ⟨k, out, y, z, hm, p0, p1, p2, hS, hE, f0⟩ := h; exact ⟨k, out, y, z, hm, p0, p1, p2, hS, hE.trans e, f0.ext e⟩) _ yz ⟨(s + 1), 0, ⟨none, 0, 0⟩, (s : Int), rfl, (hs ▸ Nt.BitI.start hn1 (Nt.bitl_lt N)), xq, xq, rfl, (Ext.refl _), (nat_nilN _ _)⟩ ?_)))
 rintro ao _ u16 ⟨k, out, y, z, av, hI, hks, hz, rfl, an, f0⟩
 refine zzd (sq9 (zza 21 (zI z) (zza 22 (zB (decide ((0 : Int) ≤ z))) (zzb (zzt (b := decide ((0 : Int) ≤ z)) xj (fun ab => ?_) (fun ab => ?_))))))
 ·have qhb17 := of_decide_eq_true ab
  refine zzr (zzo ?_)
  refine zzd (zzs (zzd ?_))
  obtain ⟨j, rfl⟩ : ∃ j : Nat, k = j + 1 := ⟨k - 1, by have h9 := of_decide_eq_true ab; omega⟩
  obtain rfl : z = (j : Int) := by omega
  have hjs : j / 32 ≤ K := by omega
  have hnk : n * (max K (1 + j / 32 + 1) + 1) ≤ 64 * (K + 3) := Nat.mul_le_mul hn xq
  refine zzf (zza 25 (.v (y.v)) (zxw 26 ⟨104, [.int .u32 1]⟩ 1 (fun b18 u19 ah ay => ?_)))
  refine zza 27 (zI j) (zzg 28 96 _ fun _ _ ae ar => Post.mono (k_rnShift (s := j) ar ((one_data ay).ext ae).raw xq xq) ?_)
  rintro _ u25 ai ⟨x23, rfl, aB⟩
  refine zzg 29 164 _ fun _ _ ac ax => Post.mono (k_rnAdd ax (f0.ext (ah.t (ae.t (ai.t ac)))).raw (aB.ext ac).raw xq xq) ?_
  rintro _ u31 ak ⟨ad, rfl, aq⟩
  refine zza 8 (.v (ad.v)) (zzb (sq9 (zza 31 (.v (ad.v)) (zza 32 (zI n) (zzg 33 165 _ fun _ _ ag aF => Post.mono (k_rnPow (n := n) aF (aq.ext ag).raw xq xq) ?_)))))
  rintro _ u37 aj ⟨al, rfl, aE⟩
  refine zza 30 (.v (.tuple #[al.v, .int .i64 0])) (zza 34 (.v (al.v)) (zza 35 (zI 0) (zza 9 (.v (al.v)) (zza 10 (zI 0) (zzb (sq9 (zza 36 (.v (al.v)) (zza 37 (.v (x.v)) (zzg 38 166 _ fun _ _ af aC => Post.mono (k_rnCompare aC (aE.ext af).raw (hx.ext (ap.t (aD.t (an.t (ah.t (ae.t (ai.t (ac.t (ak.t (ag.t (aj.t af))))))))))) xq xq) ?_)))))))))
  rintro _ u41 am rfl
  refine zza 39 (zB (decide ((Nt.cmpS ((out + (1 * 2 ^ j)) ^ n) N) ≤ 0))) (zzc 42 [(0, .v (x.v)), (1, zI n), (6, .v (y.v)), (7, zI j), (8, .v (ad.v)), (39, zB (decide ((Nt.cmpS ((out + (1 * 2 ^ j)) ^ n) N) ≤ 0)))] [] (zzt (b := decide ((Nt.cmpS ((out + (1 * 2 ^ j)) ^ n) N) ≤ 0)) xj (fun aa => ?_) (fun aa => ?_)))
  ·have qhb44 := of_decide_eq_true aa
   refine zzf (zza 40 (.v (ad.v)) (zza 6 (.v (ad.v)) (zzw ?_)))
   refine zzo (zzf (zza 23 (zI j) (zyp 24 (x := zI (IntKind.i64.wrap ((j : Int) - 1))) (zI ((j : Int) - 1)) yv (zza 7 (zI ((j : Int) - 1)) (zzw ?_)))))
   have hle : (out + 2 ^ j) ^ n ≤ N := by have h9 := aa; rw [Nt.cmp_le] at h9; have h8 := of_decide_eq_true h9; rw [Int.one_mul] at h8; exact_mod_cast h8
   have hI2 := hI.yes hle
   have hdl : dl (out + 2 ^ j) ≤ K := Nat.le_trans (Nt.dl_mono (Nat.le_trans (Nat.le_self_pow xq _) hle)) hx.size
   refine ⟨_, ?_, _, by exact zzu _ _ _, j, (out + 2 ^ j), ad, ((j : Int) - 1), rfl, hI2, xq, xq, rfl, (an.t (ah.t (ae.t (ai.t (ac.t (ak.t (ag.t (aj.t (af.t am.ext))))))))), (by have h9 := (aq.ext (ag.t (aj.t (af.t am.ext)))); rw [Nat.one_mul] at h9; exact NatN.fit h9 hdl)⟩
   omega
  have qhb44 := of_decide_eq_false aa
  refine zzr (zzo ?_)
  refine zzf (zza 23 (zI j) (zyp 24 (x := zI (IntKind.i64.wrap ((j : Int) - 1))) (zI ((j : Int) - 1)) yv (zza 7 (zI ((j : Int) - 1)) (zzw ?_))))
  have hle : ¬ (out + 2 ^ j) ^ n ≤ N := by have h9 := aa; rw [Nt.cmp_le] at h9; have h8 := of_decide_eq_false h9; rw [Int.one_mul] at h8; exact_mod_cast h8
  have hI2 := hI.no hle
  refine ⟨_, ?_, _, by exact zzu _ _ _, j, out, y, ((j : Int) - 1), rfl, hI2, xq, xq, rfl, (an.t (ah.t (ae.t (ai.t (ac.t (ak.t (ag.t (aj.t (af.t am.ext))))))))), (f0.ext (ah.t (ae.t (ai.t (ac.t (ak.t (ag.t (aj.t (af.t am.ext)))))))))⟩
  omega
 have qhb17 := of_decide_eq_false ab
 refine zyb (zzo (sq9 (zza 41 (.v (y.v)) (zza 4 (.v (y.v)) (zza 5 (zI 0) (zzb (zzn (ret0 [y.v, .int .i64 0] ⟨zzp, zzp, trivial⟩ fun u45 aA => ?_))))))))
 have aw : k = 0 := by have h9 := of_decide_eq_false ab; omega
 subst aw
 have hd := hI.done hn1
 subst hd
 exact ⟨y, rfl, (f0.ext aA)⟩
set_option maxHeartbeats 4000000 in
theorem k_r10RootG {u w : World} {r : RL} {q : Rat} {K n k : Nat} (d : Dat u w) (hr : RatV u r q K) (hq0 : 0 ≤ q) (hn1 : 1 ≤ n) (hn : n ≤ 64) (hk : k ≤ 256) (hK : K ≤ 100) : Calls Tryz.prog 21 #[r.v, .int .i64 (n : Int), .int .i64 (k : Int)] w (Post u w fun v u' => ∃ r1 r2 : RL, v = .tuple #[IV r1 r2, .int .i64 0] ∧ RatN u' r1 (Nt.gr k (Nt.rtN q n k : Int)) 5000 ∧ RatN u' r2 (Nt.gr k (Nt.rtH q n k)) 5000) := by
 have hnk : n * (k / 32 + 2 + 2) ≤ 64 * 12 := Nat.mul_le_mul hn xq
 have a8 : n * 2000 ≤ 64 * 2000 := Nat.mul_le_mul_right _ hn
 refine zzl (args := [r.v, .int .i64 n, .int .i64 k]) Tryz.func21 rfl Tryz.ntmps21 (rs := [.cell 6 32, .tmp 7]) Tryz.results21 (le_b rfl) (le_b rfl) d ?_
 refine sq9 (zzj 3 ⟨26, r.cs⟩ (zzj 6 ⟨32, zw6⟩ (zza 7 (zI 0) (zzb (zzd (sq9 (zzh 18 (.v (r.v)) ty26 zze (zzg 19 29 _ fun _ _ aR bh => Post.mono (k_rqSign bh (hr.ext aR) xq) ?_))))))))
 rintro _ u12 bn rfl
 refine zza 20 (zB (decide ((Nt.sgQ q) < 0))) (zqB 21 (show (decide ((Nt.sgQ q) < 0)) = false from decide_eq_false (Nt.sgQ_nn hq0)) (zza 22 (zI k) ?_ (hw := w1 3 false 21)))
 refine zzg 23 85 _ (fun _ _ aZ bq => Post.mono (k_r10bad (n := (k : Int)) bq) ?_) (hw := w1 3 false 21)
 rintro _ u17 be rfl
 refine zza 24 (zB (decide ((k : Int) < 0 ∨ 256 < (k : Int)))) (zqB 25 (show (decide ((k : Int) < 0 ∨ 256 < (k : Int))) = false from decide_eq_false xq) (zza 26 (zI n) ?_ (hw := w1 7 false 25)))
 refine zza 27 (zB (decide ((n : Int) < 1))) ?_ (hw := w1 7 false 25)
 refine zza 28 (zB (decide ((n : Int) < 1))) (zqB 29 (show (decide ((n : Int) < 1)) = false from decide_eq_false xq) (zza 30 (zI n) ?_ (hw := w1 11 false 29)))
 refine zza 31 (zB (decide ((64 : Int) < (n : Int)))) ?_ (hw := w1 11 false 29)
 refine zza 32 (zB (decide ((64 : Int) < (n : Int)))) (zzb (zzt (b := decide ((64 : Int) < (n : Int))) xj (fun hb => ?_) (fun hb => ?_)))
 ·exact absurd hb (by rw [show (decide ((64 : Int) < (n : Int))) = false from decide_eq_false xq]; decide)
 clear hb
 refine zzr (zzo ?_)
 refine sq9 (zza 34 (zI k) (zzg 35 27 _ fun _ _ a5 aV => Post.mono (k_unit (k := k) aV xq) ?_))
 rintro _ u25 aY ⟨am, rfl, aG⟩
 refine zzj 8 ⟨26, zw3⟩ (zzi ⟨26, am.cs⟩ ty26 ?_)
 refine zzb (sq9 (zzh 37 (.v (am.v)) ty26 zze (zza 38 (zI n) (zzg 39 24 _ fun _ _ ao a7 => Post.mono (k_rqPow (n := n) a7 (aG.ext ao).raw xq xq) ?_))))
 rintro _ u31 ax ⟨aB, rfl, bp⟩
 refine zza 36 (.v (.tuple #[aB.v, .int .i64 0])) (zza 40 (.v (aB.v)) (zza 41 (zI 0) (zzj 9 ⟨26, zw3⟩ (zzi ⟨26, aB.cs⟩ ty26 ?_))))
 refine zza 10 (zI 0) (zzc 78 [(1, zI n), (3, .adr 3 0), (6, .adr 6 0), (8, .adr 8 0), (9, .adr 9 0)] [(3, ⟨26, r.cs⟩), (6, ⟨32, zw6⟩), (8, ⟨26, am.cs⟩), (9, ⟨26, aB.cs⟩)] (sq9 (zzh 42 (.v (r.v)) ty26 zze (zzh 43 (.v (aB.v)) ty26 zze (zzg 44 25 _ fun _ _ aw bg => Post.mono (k_rqMul bg (hr.ext (aR.t (bn.t (aZ.t (be.t (a5.t (aY.t (ao.t (ax.t aw))))))))) (bp.ext aw).raw xq xq) ?_)))))
 rintro _ u37 aK ⟨aJ, rfl, aQ⟩
 refine zzj 11 ⟨26, zw3⟩ (zzi ⟨26, aJ.cs⟩ ty26 ?_)
 refine zzb (sq9 (zzh 46 (.v (aJ.v)) ty26 zze (zzg 47 87 _ fun _ _ av a9 => Post.mono (k_floor a9 (aQ.ext av).raw xq) ?_)))
 rintro _ u43 aD ⟨a2, rfl, a1⟩
 refine zza 48 (.v (a2.m.v)) (zza 49 (zI n) (zzg 50 86 _ fun _ _ au bj => Post.mono (k_rnRoot (n := n) bj ((int_mag a1).ext au).raw xq xq xq) ?_))
 rintro _ u49 aC ⟨ab, rfl, ay⟩
 refine zza 45 (.v (.tuple #[ab.v, .int .i64 0])) (zza 51 (.v (ab.v)) (zza 52 (zI 0) (zza 12 (.v (ab.v)) (zza 13 (zI 0) (zzb (sq9 (zza 53 (.v (ab.v)) (zza 54 (.v (.agg #[.bool false, ab.v])) (zxw 55 ⟨104, [.int .u32 1]⟩ 1 (fun ah u53 ai az => ?_))))))))))
 refine zza 56 (.v (.agg #[.bool false, ab.v, .slice (some ⟨ah, 0, none⟩) 1 1])) (zzj 14 ⟨26, zw3⟩ (zzi ⟨26, [.bool false, ab.v, .slice (some ⟨ah, 0, none⟩) 1 1]⟩ ty26 ?_))
 refine zzb (sq9 (zzh 57 (.v (.agg #[.bool false, ab.v, .slice (some ⟨ah, 0, none⟩) 1 1])) ty26 zze (zzj 15 ⟨26, zw3⟩ (zzi ⟨26, [.bool false, ab.v, .slice (some ⟨ah, 0, none⟩) 1 1]⟩ ty26 ?_))))
 refine zzb (zzd (zzd ?_))
 have bf : n * ((max (max ((K + (n * ((k / 32 + 2) + 2) + 2) + 1) + 1) 1) 1) + 2) ≤ 64 * 2000 := Nat.mul_le_mul hn xq
 refine zzf (zzh 59 (.v (.agg #[.bool false, ab.v, .slice (some ⟨ah, 0, none⟩) 1 1])) ty26 zze (zza 60 (zI n) (zzg 61 24 _ fun _ _ ac ba => Post.mono (k_rqPow (n := n) ba (rat_mk2 (s := false) (nat_int (ay.ext (ai.trans ac)).raw) ((one_data az).ext ac).raw) xq xq) ?_)))
 rintro _ u59 ae ⟨aF, rfl, bs⟩
 refine zza 58 (.v (.tuple #[aF.v, .int .i64 0])) (zza 62 (.v (aF.v)) (zza 63 (zI 0) (zzj 16 ⟨26, zw3⟩ (zzi ⟨26, aF.cs⟩ ty26 ?_))))
 refine zza 17 (zI 0) (zzc 78 [(6, .adr 6 0), (8, .adr 8 0), (11, .adr 11 0), (14, .adr 14 0), (15, .adr 15 0), (16, .adr 16 0)] [(6, ⟨32, zw6⟩), (8, ⟨26, am.cs⟩), (11, ⟨26, aJ.cs⟩), (14, ⟨26, [.bool false, ab.v, .slice (some ⟨ah, 0, none⟩) 1 1]⟩), (15, ⟨26, [.bool false, ab.v, .slice (some ⟨ah, 0, none⟩) 1 1]⟩), (16, ⟨26, aF.cs⟩)] (sq9 (zzh 64 (.v (aF.v)) ty26 zze (zzh 65 (.v (aJ.v)) ty26 zze (zzg 66 28 _ fun _ _ ad bk => Post.mono (k_rqCompare bk (bs.ext ad).raw (aQ.ext (av.t (aD.t (au.t (aC.t (ai.t (ac.t (ae.t ad)))))))).raw xq xq) ?_)))))
 rintro _ u63 af rfl
 refine zza 67 (zB (decide ((Nt.cmpQ ((mkRat ((Nt.irt n ((Nt.flr (q * ((((2 ^ k : Nat) : Int) : Rat) ^ n))).natAbs)) : Int) 1) ^ n) (q * ((((2 ^ k : Nat) : Int) : Rat) ^ n))) < 0))) (zzb (zzt (b := decide ((Nt.cmpQ ((mkRat ((Nt.irt n ((Nt.flr (q * ((((2 ^ k : Nat) : Int) : Rat) ^ n))).natAbs)) : Int) 1) ^ n) (q * ((((2 ^ k : Nat) : Int) : Rat) ^ n))) < 0)) xj (fun ag => ?_) (fun ag => ?_)))
 ·have qhb66 := of_decide_eq_true ag
  refine zzy [0, 0, 3, 7] [(0, []), (1, []), (2, []), (3, [])] xj xj (zzh 68 (.v (.agg #[.bool false, ab.v, .slice (some ⟨ah, 0, none⟩) 1 1])) ty26 zze (zzg 69 30 _ fun _ _ ap aX => Post.mono (k_rqOf aX (z := 1) xq xq) ?_))
  rintro _ u70 aq ⟨r68, rfl, bb⟩
  refine zzg 70 57 _ fun _ _ an bl => Post.mono (k_rqAdd bl (rat_mk2 (s := false) (nat_int (ay.ext (ai.t (ac.t (ae.t (ad.t (af.t (ap.t (aq.t an)))))))).raw) ((one_data az).ext (ac.t (ae.t (ad.t (af.t (ap.t (aq.t an))))))).raw) (bb.ext an).raw xq xq) ?_
  rintro _ u76 aI ⟨aT, rfl, aW⟩
  refine zzi ⟨26, aT.cs⟩ ty26 ?_
  refine zzb (zzd (zzy [0, 0, 3, 0, 0, 31, 63, 127, 255] [(0, []), (1, []), (3, []), (4, []), (2, []), (5, []), (6, []), (7, []), (8, [])] xj xj (zzh 71 (.v (.agg #[.bool false, ab.v, .slice (some ⟨ah, 0, none⟩) 1 1])) ty26 zze (zzh 72 (.v (am.v)) ty26 zze (zzh 74 (.v (aT.v)) ty26 zze (zzh 75 (.v (am.v)) ty26 zze (zzg 73 88 _ fun _ _ aA bc => Post.mono (k_rqOver bc (rat_mk2 (s := false) (nat_int (ay.ext (ai.t (ac.t (ae.t (ad.t (af.t (ap.t (aq.t (an.t (aI.t aA)))))))))).raw) ((one_data az).ext (ac.t (ae.t (ad.t (af.t (ap.t (aq.t (an.t (aI.t aA))))))))).raw) (aG.ext (ao.t (ax.t (aw.t (aK.t (av.t (aD.t (au.t (aC.t (ai.t (ac.t (ae.t (ad.t (af.t (ap.t (aq.t (an.t (aI.t aA)))))))))))))))))).raw xq xq) ?_)))))))
  rintro _ u82 aP ⟨aj, rfl, a6⟩
  refine zzg 76 88 _ fun _ _ aN bo => Post.mono (k_rqOver bo (aW.ext (aA.t (aP.t aN))).raw (aG.ext (ao.t (ax.t (aw.t (aK.t (av.t (aD.t (au.t (aC.t (ai.t (ac.t (ae.t (ad.t (af.t (ap.t (aq.t (an.t (aI.t (aA.t (aP.t aN)))))))))))))))))))).raw xq xq) ?_
  rintro _ u88 br ⟨ak, rfl, a3⟩
  refine zza 77 (.v (.agg #[.bool aj.s, aj.m.v, aj.d.v, .bool ak.s, ak.m.v, ak.d.v])) (zzi ⟨32, aj.cs ++ ak.cs⟩ ty32 ?_)
  refine zza 7 (zI 0) (zzb (zzn (ret0 [.agg #[.bool aj.s, aj.m.v, aj.d.v, .bool ak.s, ak.m.v, ak.d.v], .int .i64 0] ⟨zzq ty32 zze, zzp, trivial⟩ fun u91 aS => ?_)))
  have hx9 := Nt.rt_cmp (k := k) hq0 hn1
  have hH : Nt.rtH q n k = (Nt.rtN q n k : Int) + 1 := if_neg (hx9.1 (by have h9 := ag; rw [Nt.flr_rtD hq0] at h9; exact h9))
  refine ⟨aj, ak, rfl, RatN.more (K := ((max (max ((K + (n * ((k / 32 + 2) + 2) + 2) + 1) + 1) 1) 1) + (k / 32 + 2) + 2)) ?_ xq, RatN.more (K := (((max (max ((K + (n * ((k / 32 + 2) + 2) + 2) + 1) + 1) 1) 1) + 2 + 2) + (k / 32 + 2) + 2)) ?_ xq⟩
  ·have h9 := (a6.ext (aN.t (br.t aS)))
   rw [Nt.flr_rtD hq0, Nt.rt_lo] at h9
   exact h9
  have h9 := (a3.ext aS)
  rw [Nt.flr_rtD hq0, Nt.rt_hi] at h9
  rw [hH]
  exact h9
 have qhb66 := of_decide_eq_false ag
 refine zzr (zzo ?_)
 refine zzd (zzy [0, 0, 3, 0, 0, 31, 63, 127, 255] [(0, []), (1, []), (3, []), (4, []), (2, []), (5, []), (6, []), (7, []), (8, [])] xj xj (zzh 71 (.v (.agg #[.bool false, ab.v, .slice (some ⟨ah, 0, none⟩) 1 1])) ty26 zze (zzh 72 (.v (am.v)) ty26 zze (zzh 74 (.v (.agg #[.bool false, ab.v, .slice (some ⟨ah, 0, none⟩) 1 1])) ty26 zze (zzh 75 (.v (am.v)) ty26 zze (zzg 73 88 _ fun _ _ ar a4 => Post.mono (k_rqOver a4 (rat_mk2 (s := false) (nat_int (ay.ext (ai.t (ac.t (ae.t (ad.t (af.t ar)))))).raw) ((one_data az).ext (ac.t (ae.t (ad.t (af.t ar))))).raw) (aG.ext (ao.t (ax.t (aw.t (aK.t (av.t (aD.t (au.t (aC.t (ai.t (ac.t (ae.t (ad.t (af.t ar)))))))))))))).raw xq xq) ?_))))))
 rintro _ u96 aM ⟨al, rfl, bi⟩
 refine zzg 76 88 _ fun _ _ aH bm => Post.mono (k_rqOver bm (rat_mk2 (s := false) (nat_int (ay.ext (ai.t (ac.t (ae.t (ad.t (af.t (ar.t (aM.t aH)))))))).raw) ((one_data az).ext (ac.t (ae.t (ad.t (af.t (ar.t (aM.t aH))))))).raw) (aG.ext (ao.t (ax.t (aw.t (aK.t (av.t (aD.t (au.t (aC.t (ai.t (ac.t (ae.t (ad.t (af.t (ar.t (aM.t aH)))))))))))))))).raw xq xq) ?_
 rintro _ a0 aO ⟨aa, rfl, aL⟩
 refine zza 77 (.v (.agg #[.bool al.s, al.m.v, al.d.v, .bool aa.s, aa.m.v, aa.d.v])) (zzi ⟨32, al.cs ++ aa.cs⟩ ty32 ?_)
 refine zza 7 (zI 0) (zzb (zzn (ret0 [.agg #[.bool al.s, al.m.v, al.d.v, .bool aa.s, aa.m.v, aa.d.v], .int .i64 0] ⟨zzq ty32 zze, zzp, trivial⟩ fun aU aE => ?_)))
 have hx9 := Nt.rt_cmp (k := k) hq0 hn1
 have hH : Nt.rtH q n k = (Nt.rtN q n k : Int) := if_pos (Decidable.not_not.1 (fun h8 => by have h7 := hx9.2 h8; have h9 := ag; rw [Nt.flr_rtD hq0] at h9; rw [show Nt.irt n (Nt.rtD q n k) = Nt.rtN q n k from rfl, h7] at h9; exact absurd h9 xw))
 refine ⟨al, aa, rfl, RatN.more (K := ((max (max ((K + (n * ((k / 32 + 2) + 2) + 2) + 1) + 1) 1) 1) + (k / 32 + 2) + 2)) ?_ xq, RatN.more (K := ((max (max ((K + (n * ((k / 32 + 2) + 2) + 2) + 1) + 1) 1) 1) + (k / 32 + 2) + 2)) ?_ xq⟩
 ·have h9 := (bi.ext (aH.t (aO.t aE)))
  rw [Nt.flr_rtD hq0, Nt.rt_lo] at h9
  exact h9
 have h9 := (aL.ext aE)
 rw [Nt.flr_rtD hq0, Nt.rt_lo] at h9
 rw [hH]
 exact h9
theorem Nt.cs_x {k : Nat} {a b : Int} {F : Rat} (h : a ≤ b) (hF : 0 ≤ F) : Nt.lo4 (Nt.gr k a * Nt.lo F F) (Nt.gr k a * Nt.hi F F) (Nt.gr k b * Nt.lo F F) (Nt.gr k b * Nt.hi F F) = Nt.gr k a * F ∧ Nt.hi4 (Nt.gr k a * Nt.lo F F) (Nt.gr k a * Nt.hi F F) (Nt.gr k b * Nt.lo F F) (Nt.gr k b * Nt.hi F F) = Nt.gr k b * F := by
 rw [Nt.lo_self, Nt.hi_self]
 exact Nt.lo4_pt (Nt.gr_mono h) hF
theorem Nt.fr_nn {s q : Nat} (h : 0 < q) : (0 : Rat) ≤ (((s : Int) : Rat) / ((q : Int) : Rat)) := Nt.div_nn (Rat.intCast_le_intCast.2 (show (0 : Int) ≤ (s : Int) by omega)) (Nt.castI_pos (show (0 : Int) < (q : Int) by omega))
set_option maxHeartbeats 8000000 in
theorem k_r10CosPiG {u w : World} {p : Int} {q k : Nat} (d : Dat u w) (hq1 : 1 ≤ q) (hq2 : q ≤ 1000) (hp0 : -1000000 ≤ p) (hp1 : p ≤ 1000000) (hk : k ≤ 256) (hG0 : Nt.GapQ q k) : Calls Tryz.prog 35 #[.int .i64 p, .int .i64 (q : Int), .int .i64 (k : Int)] w (Post u w fun v u' => ∃ r1 r2 : RL, v = .tuple #[IV r1 r2, .int .i64 0] ∧ RatN u' r1 ((Nt.cosV p q k).1) 200 ∧ RatN u' r2 ((Nt.cosV p q k).2) 200) := by
 have aG : 0 < q := by omega
 have htm := Nt.tmod_bd p aG
 obtain ⟨g, hg3, hG⟩ := id hG0
 refine zzl (args := [.int .i64 p, .int .i64 q, .int .i64 k]) Tryz.func35 rfl Tryz.ntmps35 (rs := [.cell 6 32, .tmp 7]) Tryz.results35 (le_b rfl) (le_b rfl) d ?_
 refine sq9 (zzj 6 ⟨32, zw6⟩ (zza 7 (zI 0) (zzb (zzd (sq9 (zza 13 (zI k) (zzg 14 85 _ fun _ _ _ dU => Post.mono (k_r10bad (n := (k : Int)) dU) ?_)))))))
 rintro _ u12 g13 rfl
 refine zqB 15 (show (decide ((k : Int) < 0 ∨ 256 < (k : Int))) = false from decide_eq_false xq) (zza 16 (zI q) ?_ (hw := w1 2 false 15))
 refine zza 17 (zB (decide ((q : Int) < 1))) ?_ (hw := w1 2 false 15)
 refine zza 18 (zB (decide ((q : Int) < 1))) (zqB 19 (show (decide ((q : Int) < 1)) = false from decide_eq_false xq) (zza 20 (zI q) ?_ (hw := w1 6 false 19)))
 refine zza 21 (zB (decide ((1000 : Int) < (q : Int)))) ?_ (hw := w1 6 false 19)
 refine zza 22 (zB (decide ((1000 : Int) < (q : Int)))) (zqB 23 (show (decide ((1000 : Int) < (q : Int))) = false from decide_eq_false xq) (zza 24 (zI p) ?_ (hw := w1 10 false 23)))
 refine zza 25 (zB (decide (p < (-1000000)))) ?_ (hw := w1 10 false 23)
 refine zza 26 (zB (decide (p < (-1000000)))) (zqB 27 (show (decide (p < (-1000000))) = false from decide_eq_false xq) (zza 28 (zI p) ?_ (hw := w1 14 false 27)))
 refine zza 29 (zB (decide ((1000000 : Int) < p))) ?_ (hw := w1 14 false 27)
 refine zza 30 (zB (decide ((1000000 : Int) < p))) (zzb (zzt (b := decide ((1000000 : Int) < p)) xj (fun hb => ?_) (fun hb => ?_)))
 ·exact absurd hb (by rw [show (decide ((1000000 : Int) < p)) = false from decide_eq_false xq]; decide)
 clear hb
 refine zzr (zzo ?_)
 refine sq9 (zza 32 (zI p) (zza 33 (zI q) (zyp 34 (x := zI (IntKind.i64.wrap ((2 : Int) * (q : Int)))) (zI (2 * q : Nat)) (eqI xk) (sy_rem 35 (m := ((2 * q : Nat) : Int)) (Int.tmod p (2 * (q : Int))) xq (by rw [Int.natCast_mul]; rfl) ?_))))
 refine zza 0 (zI (Int.tmod p (2 * (q : Int)))) (zzb (zzd (sq9 (zza 36 (zI (Int.tmod p (2 * (q : Int)))) (zza 37 (zB (decide ((Int.tmod p (2 * (q : Int))) < 0))) (zzb (zzt (b := decide ((Int.tmod p (2 * (q : Int))) < 0)) xj (fun a3 => ?_) (fun a3 => ?_))))))))
 ·have qhb19 := of_decide_eq_true a3
  refine zzf (zza 38 (zI (Int.tmod p (2 * (q : Int)))) (zza 39 (zI q) (zyp 40 (x := zI (IntKind.i64.wrap ((2 : Int) * (q : Int)))) (zI (2 * q : Nat)) (eqI xk) (zyp 41 (x := zI (IntKind.i64.wrap ((Int.tmod p (2 * (q : Int))) + ((2 * q : Nat) : Int)))) (zI ((Int.tmod p (2 * (q : Int))) + ((2 * q : Nat) : Int))) yv (zza 0 (zI ((Int.tmod p (2 * (q : Int))) + ((2 * q : Nat) : Int))) (zzc 113 [(0, zI ((Int.tmod p (2 * (q : Int))) + ((2 * q : Nat) : Int))), (1, zI q), (2, zI k), (6, .adr 6 0)] [(6, ⟨32, zw6⟩)] (zzd (sw_joinP (I := fun S' u' => ∃ (r : Nat), (Nt.fold p q = r) ∧ (r ≤ q) ∧ (S' = St.of 113 [(0, zI r), (1, zI q), (2, zI k), (6, .adr 6 0)] [(6, ⟨32, zw6⟩)])) ?_ (fun aN => ?_)))))))))
  ·rintro _ eb ef ⟨r, hr, hfl, rfl⟩
   refine sq9 (zza 49 (zI r) (zyp 50 (x := zI (IntKind.i64.wrap ((2 : Int) * (r : Int)))) (zI (2 * r : Nat)) (eqI xk) (zza 51 (zI q) (zza 52 (zB (decide ((q : Int) < ((2 * r : Nat) : Int)))) (zza 8 (zB (decide ((q : Int) < ((2 * r : Nat) : Int)))) (zzb (zzd (sw_joinP (I := fun S' u' => ∃ (s : Nat) (ng : Bool), ((ng = true ∧ q < 2 * r ∧ s = q - r) ∨ (ng = false ∧ ¬ q < 2 * r ∧ s = r)) ∧ (2 * s ≤ q) ∧ (S' = St.of 113 [(0, zI s), (1, zI q), (2, zI k), (6, .adr 6 0), (8, zB ng)] [(6, ⟨32, zw6⟩)])) ?_ (fun aO => ?_)))))))))
   ·rintro _ dq ez ⟨s, ng, hs, hsq, rfl⟩
    refine sq9 (zza 57 (.v (.agg #[.bool false, .slice none 0 0, .slice none 0 0, .bool false, .slice none 0 0, .slice none 0 0])) (zzj 9 ⟨32, zw6⟩ (zzi ⟨32, zw6⟩ ty32 ?_)))
    refine zzb (zzd (sw_joinP (I := fun S' u' => ∃ (x1 : RL) (x2 : RL), (S' = St.of 113 [(6, .adr 6 0), (8, zB ng), (9, .adr 9 0)] [(6, ⟨32, zw6⟩), (9, ⟨32, x1.cs ++ x2.cs⟩)]) ∧ (RatN u' x1 (Nt.cosA s q k).1 200) ∧ (RatN u' x2 (Nt.cosA s q k).2 200)) ?_ (fun au => ?_)))
    ·rintro _ d5 dR ⟨x1, x2, rfl, bE, bu⟩
     refine zzd (sq9 (zza 104 (zB ng) (zzb (zzt (b := ng) xj (fun ax => ?_) (fun ax => ?_)))))
     ·replace ax : ng = true := ax
      refine zzy [0, 1, 3, 0, 8, 31, 63, 127] [(0, []), (1, []), (3, []), (4, []), (2, []), (5, []), (6, []), (7, [])] xj xj (zza 105 (.adr 9 3) (zzh 106 (.v (x2.v)) ty26 zze (zza 108 (.adr 9 0) (zzh 109 (.v (x1.v)) ty26 zze (zzg 107 39 _ fun _ _ db dZ => Post.mono (k_rqNeg dZ (bu.ext db).raw xq) ?_)))))
      rintro _ u27 dW ⟨aH, rfl, eo⟩
      refine zzg 110 39 _ fun _ _ df d1 => Post.mono (k_rqNeg d1 (bE.ext (db.t (dW.t df))).raw xq) ?_
      rintro _ u33 dD ⟨aI, rfl, dK⟩
      refine zza 111 (.v (.agg #[.bool aH.s, aH.m.v, aH.d.v, .bool aI.s, aI.m.v, aI.d.v])) (zzi ⟨32, aH.cs ++ aI.cs⟩ ty32 ?_)
      refine zzb (sq9 (zzh 112 (.v (.agg #[.bool aH.s, aH.m.v, aH.d.v, .bool aI.s, aI.m.v, aI.d.v])) ty32 zze (zzi ⟨32, aH.cs ++ aI.cs⟩ ty32 ?_)))
      refine zza 7 (zI 0) (zzb (zzn (ret0 [.agg #[.bool aH.s, aH.m.v, aH.d.v, .bool aI.s, aI.m.v, aI.d.v], .int .i64 0] ⟨zzq ty32 zze, zzp, trivial⟩ fun u36 dg => ?_)))
      have hs9 := hs.resolve_right (fun h => by rw [ax] at h; exact absurd h.1 xw)
      have hc := Nt.cosV_hi (b := k) hr hs9.2.1
      rw [← hs9.2.2] at hc
      refine ⟨aH, aI, rfl, RatN.more (K := 200) ?_ xq, RatN.more (K := 200) ?_ xq⟩
      ·rw [hc]; exact (eo.ext (df.t (dD.t dg)))
      rw [hc]; exact (dK.ext dg)
     replace ax : ng = false := ax
     refine zzr (zzo ?_)
     refine sq9 (zzh 112 (.v (.agg #[.bool x1.s, x1.m.v, x1.d.v, .bool x2.s, x2.m.v, x2.d.v])) ty32 zze (zzi ⟨32, x1.cs ++ x2.cs⟩ ty32 ?_))
     refine zza 7 (zI 0) (zzb (zzn (ret0 [.agg #[.bool x1.s, x1.m.v, x1.d.v, .bool x2.s, x2.m.v, x2.d.v], .int .i64 0] ⟨zzq ty32 zze, zzp, trivial⟩ fun u38 c5 => ?_)))
     have hs9 := hs.resolve_left (fun h => by rw [ax] at h; exact absurd h.1 xw)
     have hc := Nt.cosV_lo (b := k) hr hs9.2.1
     rw [← hs9.2.2] at hc
     refine ⟨x1, x2, rfl, RatN.more (K := 200) ?_ xq, RatN.more (K := 200) ?_ xq⟩
     ·rw [hc]; exact (bE.ext c5)
     rw [hc]; exact (bu.ext c5)
    refine zzs (sq9 (zza 83 (zI s) (zza 84 (zB ((s : Int) == 0)) (zza 82 (zB ((s : Int) == 0)) (zzb (zzt (b := (s : Int) == 0) xj (fun aK => ?_) (fun aK => ?_)))))))
    ·have bs : (s : Int) = 0 := by simpa using aK
     have ao : s = 0 := by have h9 := aK; simp at h9; omega
     refine zzf (zzg 85 30 _ fun _ _ ei dO => Post.mono (k_rqOf dO (z := 1) xq xq) ?_)
     rintro _ u44 ds ⟨r42, rfl, dA⟩
     refine zza 86 (zI k) (zzg 87 105 _ fun _ _ cX dG => Post.mono (k_r10point (k := k) dG (dA.ext cX) xq xq) ?_)
     rintro _ u52 d4 ⟨b9, cH, rfl, dy, d7⟩
     refine zzi ⟨32, b9.cs ++ cH.cs⟩ ty32 ?_
     refine zzw ?_
     refine zzo ?_
     have hcA := Nt.cosA_0 (r := s) (q := q) (b := k) ao
     refine sw_weak (T := St.of 113 [(6, .adr 6 0), (8, zB ng), (9, .adr 9 0)] [(6, ⟨32, zw6⟩), (9, ⟨32, b9.cs ++ cH.cs⟩)]) yz ?_
     exact au _ _ (ei.t (ds.t (cX.t d4.ext))) ⟨b9, cH, rfl, (by rw [hcA]; exact RatN.more dy xq), (by rw [hcA]; exact RatN.more d7 xq)⟩
    have bs : ¬ ((s : Int) = 0) := by simpa using aK
    have ao : ¬ s = 0 := by have h9 := aK; simp at h9; omega
    refine sq9 (zza 89 (zI s) (zyp 90 (x := zI (IntKind.i64.wrap ((2 : Int) * (s : Int)))) (zI (2 * s : Nat)) (eqI xk) (zza 91 (zI q) (zza 92 (zB (((2 * s : Nat) : Int) == (q : Int))) (zza 88 (zB (((2 * s : Nat) : Int) == (q : Int))) (zzb (zzt (b := ((2 * s : Nat) : Int) == (q : Int)) xj (fun bb => ?_) (fun bb => ?_))))))))
    ·have av : 2 * s = q := by have h9 := bb; simp at h9; omega
     refine zzf (zzg 93 30 _ fun _ _ dv dS => Post.mono (k_rqOf dS (z := 0) xq xq) ?_)
     rintro _ u59 d2 ⟨r57, rfl, eF⟩
     refine zza 94 (zI k) (zzg 95 105 _ fun _ _ cY ep => Post.mono (k_r10point (k := k) ep (eF.ext cY) xq xq) ?_)
     rintro _ u67 dH ⟨b0, cd, rfl, dJ, dI⟩
     refine zzi ⟨32, b0.cs ++ cd.cs⟩ ty32 ?_
     refine zzw ?_
     refine zzo ?_
     have hcA := Nt.cosA_h (r := s) (q := q) (b := k) ao av
     refine sw_weak (T := St.of 113 [(6, .adr 6 0), (8, zB ng), (9, .adr 9 0)] [(6, ⟨32, zw6⟩), (9, ⟨32, b0.cs ++ cd.cs⟩)]) yz ?_
     exact au _ _ (dv.t (d2.t (cY.t dH.ext))) ⟨b0, cd, rfl, (by rw [hcA]; exact RatN.more dJ xq), (by rw [hcA]; exact RatN.more dI xq)⟩
    have av : ¬ 2 * s = q := by have h9 := bb; simp at h9; omega
    refine sq9 (zza 97 (zI s) (zyp 98 (x := zI (IntKind.i64.wrap ((3 : Int) * (s : Int)))) (zI (3 * s : Nat)) (eqI xk) (zza 99 (zI q) (zza 100 (zB (((3 * s : Nat) : Int) == (q : Int))) (zza 96 (zB (((3 * s : Nat) : Int) == (q : Int))) (zzb (zzt (b := ((3 * s : Nat) : Int) == (q : Int)) xj (fun a0 => ?_) (fun a0 => ?_))))))))
    ·have ay : 3 * s = q := by have h9 := a0; simp at h9; omega
     refine zzf (zzg 101 75 _ fun _ _ em dB => Post.mono (k_rqFrac dB (a := 1) (b := 2) xq xq xq xq) ?_)
     rintro _ u74 dQ ⟨r72, rfl, eB⟩
     refine zza 102 (zI k) (zzg 103 105 _ fun _ _ c8 dL => Post.mono (k_r10point (k := k) dL (eB.ext c8) xq xq) ?_)
     rintro _ u82 dw ⟨cF, bZ, rfl, du, dM⟩
     refine zzi ⟨32, cF.cs ++ bZ.cs⟩ ty32 ?_
     refine zzw ?_
     refine zzo ?_
     have hcA := Nt.cosA_3 (r := s) (q := q) (b := k) ao av ay
     refine sw_weak (T := St.of 113 [(6, .adr 6 0), (8, zB ng), (9, .adr 9 0)] [(6, ⟨32, zw6⟩), (9, ⟨32, cF.cs ++ bZ.cs⟩)]) yz ?_
     exact au _ _ (em.t (dQ.t (c8.t dw.ext))) ⟨cF, bZ, rfl, (by rw [hcA]; exact RatN.more du xq), (by rw [hcA]; exact RatN.more dM xq)⟩
    have ay : ¬ 3 * s = q := by have h9 := a0; simp at h9; omega
    refine sq9 (zza 10 (zB false) (zzb (sq9 (zza 58 (zI s) (zza 59 (zI q) (zzg 60 75 _ fun _ _ d9 es => Post.mono (k_rqFrac es (a := (s : Int)) (b := (q : Int)) xq xq xq xq) ?_))))))
    rintro _ u88 eC ⟨r86, rfl, dE⟩
    refine zza 61 (zI s) (zza 62 (zI q) (zzg 63 75 _ fun _ _ dj dr => Post.mono (k_rqFrac dr (a := (s : Int)) (b := (q : Int)) xq xq xq xq) ?_))
    rintro _ u94 c9 ⟨r92, rfl, er⟩
    refine zzg 64 38 _ fun _ _ ce eG => Post.mono (k_r4Make eG (dE.ext (dj.t (c9.t ce))).raw (er.ext ce).raw xq) ?_
    rintro _ bX cD ⟨bi, aD, rfl, ek, b1⟩
    refine zzj 11 ⟨32, zw6⟩ (zzi ⟨32, bi.cs ++ aD.cs⟩ ty32 ?_)
    refine zzb (sq9 (zza 65 (zI k) (zyp 66 (x := zI (IntKind.i64.wrap ((k : Int) + 16))) (zI (k + 16 : Nat)) (eqI xk) (zza 12 (zI (k + 16 : Nat)) (zzb (zzs (zym (I := fun bI S' u' => ∃ (t : Nat) (wk : Nat) (ok : Bool) (x1 : RL) (x2 : RL), (bI = t) ∧ (k + 16 ≤ wk) ∧ (wk ≤ 1400) ∧ (ok = true ∨ (t = 2001 - wk ∧ (wk ≤ 674 ∨ wk = k + 16))) ∧ (S' = St.of 113 [(2, zI k), (6, .adr 6 0), (8, zB ng), (9, .adr 9 0), (10, zB ok), (11, .adr 11 0), (12, zI wk)] [(6, ⟨32, zw6⟩), (9, ⟨32, x1.cs ++ x2.cs⟩), (11, ⟨32, bi.cs ++ aD.cs⟩)]) ∧ (Ext bX u') ∧ (IfI u' ok x1 x2 (Nt.gr k (Nt.flo (Nt.coN s q) k)) (Nt.gr k (Nt.flo (Nt.coN s q) k + 1)))) (fun m S u1 u2 e h => by obtain ⟨t, wk, ok, x1, x2, hm, p0, p1, p2, hS, hE, f0⟩ := h; exact ⟨t, wk, ok, x1, x2, hm, p0, p1, p2, hS, hE.trans e, f0.ext e⟩) _ yz ⟨(2001 - (k + 16)), (k + 16), false, (⟨false, ⟨none, 0, 0⟩, ⟨none, 0, 0⟩⟩ : RL), (⟨false, ⟨none, 0, 0⟩, ⟨none, 0, 0⟩⟩ : RL), rfl, by omega, by omega, .inr ⟨rfl, .inr rfl⟩, rfl, (Ext.refl _), (fun h => absurd h xw)⟩ ?_)))))))
    rintro bI _ dt ⟨t, wk, ok, x1, x2, c0, d0, dX, cU, rfl, aW, f0⟩
    refine zzd (sq9 (zza 67 (zB ok) (zza 68 (zB (!ok)) (zzc 113 [(2, zI k), (6, .adr 6 0), (8, zB ng), (9, .adr 9 0), (11, .adr 11 0), (12, zI wk), (68, zB (!ok))] [(6, ⟨32, zw6⟩), (9, ⟨32, x1.cs ++ x2.cs⟩), (11, ⟨32, bi.cs ++ aD.cs⟩)] (zzt (b := !ok) xj (fun aB => ?_) (fun aB => ?_))))))
    ·have hok := Nt.not_t aB
     have eu : t = 2001 - wk ∧ (wk ≤ 674 ∨ wk = k + 16) := cU.resolve_left (by rw [hok]; decide)
     have hg := hG s xq xq xq
     refine zzr (zzo ?_)
     refine zzd (zzs (zzy [0, 1, 0, 7, 0, 31, 0, 127, 255, 511, 511, 1023, 4095] [(0, []), (2, []), (4, []), (6, []), (1, []), (3, []), (5, []), (7, []), (8, []), (9, []), (10, []), (11, []), (12, [])] xj xj (zza 72 (zI wk) (zzh 74 (.v (.agg #[.bool bi.s, bi.m.v, bi.d.v, .bool aD.s, aD.m.v, aD.d.v])) ty32 zze (zza 76 (zI wk) (zza 78 (zI k) (zzg 73 104 _ fun _ _ bh cc => Post.mono (k_r10pi cc (k := wk) xq xq) ?_)))))))
     rintro _ ea ba ⟨dk, dh, bv, bz, rfl, bA, bp, aT⟩
     refine zzg 75 68 _ fun _ _ aM b5 => Post.mono (k_r4Mul b5 (bA.ext aM).raw (bp.ext aM).raw (ek.ext (aW.t (bh.t (ba.t aM)))).raw (b1.ext (aW.t (bh.t (ba.t aM)))).raw xq xq) ?_
     rintro _ eq cP ⟨dN, eD, rfl, cr, cW⟩
     refine zzg 77 106 _ fun _ _ bg cL => Post.mono (k_r10cos (p := s) (q := q) (k := wk) (a := bv) (b := bz) (K := 1000) cL aT aG xq xq xq xq (by have h9 := (cr.ext bg); rw [(Nt.cs_x (aT.bd xq).2.2.1 (Nt.fr_nn aG)).1] at h9; exact RatN.more (L := 1000) h9 xq) (by have h9 := (cW.ext bg); rw [(Nt.cs_x (aT.bd xq).2.2.1 (Nt.fr_nn aG)).2] at h9; exact RatN.more (L := 1000) h9 xq) xq) ?_
     rintro _ et cM ⟨c6, cZ, aq, an, rfl, bw, bo, aQ⟩
     refine zzg 79 103 _ fun _ _ a4 cS => Post.mono (k_r10tight (k := k) (m := wk) (a := aq) (b := an) cS (bw.ext a4) (bo.ext a4) xq xq xq) ?_
     rintro _ ey cz ⟨ag, af, rfl, bD⟩
     refine zza 71 (.v (.tuple #[.agg #[.bool ag.s, ag.m.v, ag.d.v, .bool af.s, af.m.v, af.d.v], .bool (!(Nt.cmpS (aq / Nt.u2 (wk - k)) (an / Nt.u2 (wk - k)) != 0))])) (zza 80 (.v (.agg #[.bool ag.s, ag.m.v, ag.d.v, .bool af.s, af.m.v, af.d.v])) (zza 81 (zB (!(Nt.cmpS (aq / Nt.u2 (wk - k)) (an / Nt.u2 (wk - k)) != 0))) (zzi ⟨32, ag.cs ++ af.cs⟩ ty32 ?_)))
     refine zza 10 (zB (!(Nt.cmpS (aq / Nt.u2 (wk - k)) (an / Nt.u2 (wk - k)) != 0))) (zzw ?_)
     refine zzo (zzf (zza 69 (zI wk) (zyp 70 (x := zI (IntKind.i64.wrap ((wk : Int) * 2))) (zI (wk * 2 : Nat)) (eqI xk) (zza 12 (zI (wk * 2 : Nat)) (zzw ?_)))))
     obtain ⟨t1, cT, hlt⟩ : ∃ t1 : Nat, ((!(Nt.cmpS (aq / Nt.u2 (wk - k)) (an / Nt.u2 (wk - k)) != 0)) = true ∨ (t1 = 2001 - wk * 2 ∧ (wk * 2 ≤ 674 ∨ wk * 2 = k + 16))) ∧ t1 < t := by (cases hcc : (Nt.cmpS (aq / Nt.u2 (wk - k)) (an / Nt.u2 (wk - k)) != 0) with | false => exact ⟨0, .inl rfl, by omega⟩ | true => (have hny := Nt.not_yet hg aQ.1 (Nt.csR_bd aQ aG xq xq).2.2.2.2.2 hcc; exact ⟨2001 - wk * 2, .inr ⟨rfl, .inl xq⟩, by omega⟩))
     refine ⟨_, ?_, _, by exact zzu _ _ _, t1, wk * 2, (!(Nt.cmpS (aq / Nt.u2 (wk - k)) (an / Nt.u2 (wk - k)) != 0)), ag, af, rfl, by omega, by omega, cT, rfl, (aW.t (bh.t (ba.t (aM.t (cP.t (bg.t (cM.t (a4.t cz.ext)))))))), (fun h => by have h8 := Nt.not_t h; have h9 := bD h8; rw [Nt.flo_of aQ.1 xq h8] at h9; exact ⟨h9.1, h9.2⟩)⟩
     omega
    refine zyb (zzo ?_)
    have hcA := Nt.cosA_g (r := s) (q := q) (b := k) ao av ay
    refine sw_weak (T := St.of 113 [(6, .adr 6 0), (8, zB ng), (9, .adr 9 0)] [(6, ⟨32, zw6⟩), (9, ⟨32, x1.cs ++ x2.cs⟩)]) yz ?_
    exact au _ _ (d9.t (eC.t (dj.t (c9.t (ce.t (cD.t aW)))))) ⟨x1, x2, rfl, (by rw [hcA]; exact RatN.more (f0 (Nt.not_f aB)).1 xq), (by rw [hcA]; exact RatN.more (f0 (Nt.not_f aB)).2 xq)⟩
   refine sq9 (zza 53 (zB (decide ((q : Int) < ((2 * r : Nat) : Int)))) (zzb (zzt (b := decide ((q : Int) < ((2 * r : Nat) : Int))) xj (fun aa => ?_) (fun aa => ?_))))
   ·have qhb130 := of_decide_eq_true aa
    refine zzf (zza 54 (zI q) (zza 55 (zI r) (zyp 56 (x := zI (IntKind.i64.wrap ((q : Int) - (r : Int)))) (zI (q - r : Nat)) (eqI xk) (zza 0 (zI (q - r : Nat)) (zzc 113 [(0, zI (q - r : Nat)), (1, zI q), (2, zI k), (6, .adr 6 0), (8, zB (decide ((q : Int) < ((2 * r : Nat) : Int))))] [(6, ⟨32, zw6⟩)] ?_)))))
    exact aO _ _ (Ext.refl _) ⟨q - r, (decide ((q : Int) < ((2 * r : Nat) : Int))), (.inl ⟨aa, by have h9 := of_decide_eq_true aa; omega, rfl⟩), (by have h9 := of_decide_eq_true aa; omega), rfl⟩
   have qhb130 := of_decide_eq_false aa
   refine zzr (zzo ?_)
   refine sw_weak (T := St.of 113 [(0, zI r), (1, zI q), (2, zI k), (6, .adr 6 0), (8, zB (decide ((q : Int) < ((2 * r : Nat) : Int))))] [(6, ⟨32, zw6⟩)]) yz ?_
   exact aO _ _ (Ext.refl _) ⟨r, (decide ((q : Int) < ((2 * r : Nat) : Int))), (.inr ⟨aa, by have h9 := of_decide_eq_false aa; omega, rfl⟩), (by have h9 := of_decide_eq_false aa; omega), rfl⟩
  refine sq9 (zza 42 (zI ((Int.tmod p (2 * (q : Int))) + ((2 * q : Nat) : Int))) (zza 43 (zI q) (zza 44 (zB (decide ((q : Int) < ((Int.tmod p (2 * (q : Int))) + ((2 * q : Nat) : Int))))) (zzb (zzt (b := decide ((q : Int) < ((Int.tmod p (2 * (q : Int))) + ((2 * q : Nat) : Int)))) xj (fun aL => ?_) (fun aL => ?_))))))
  ·have qhb131 := of_decide_eq_true aL
   refine zzf (zza 45 (zI q) (zyp 46 (x := zI (IntKind.i64.wrap ((2 : Int) * (q : Int)))) (zI (2 * q : Nat)) (eqI xk) (zza 47 (zI ((Int.tmod p (2 * (q : Int))) + ((2 * q : Nat) : Int))) (zyp 48 (x := zI (IntKind.i64.wrap (((2 * q : Nat) : Int) - ((Int.tmod p (2 * (q : Int))) + ((2 * q : Nat) : Int))))) (zI (((2 * q : Nat) : Int) - ((Int.tmod p (2 * (q : Int))) + ((2 * q : Nat) : Int)))) yv (zza 0 (zI (((2 * q : Nat) : Int) - ((Int.tmod p (2 * (q : Int))) + ((2 * q : Nat) : Int)))) ?_)))))
   have hfold : (((2 * q : Nat) : Int) - ((Int.tmod p (2 * (q : Int))) + ((2 * q : Nat) : Int))) = ((Nt.fold p q : Nat) : Int) := by unfold Nt.fold; dsimp only; split <;> omega
   rw [hfold]
   refine zzc 113 [(0, zI (((Nt.fold p q) : Nat) : Int)), (1, zI q), (2, zI k), (6, .adr 6 0)] [(6, ⟨32, zw6⟩)] ?_
   exact aN _ _ (Ext.refl _) ⟨(Nt.fold p q), rfl, (Nt.fold_le p q aG), rfl⟩
  have qhb131 := of_decide_eq_false aL
  refine zzr (zzo ?_)
  have hfold : ((Int.tmod p (2 * (q : Int))) + ((2 * q : Nat) : Int)) = ((Nt.fold p q : Nat) : Int) := by unfold Nt.fold; dsimp only; split <;> omega
  rw [hfold]
  refine sw_weak (T := St.of 113 [(0, zI (((Nt.fold p q) : Nat) : Int)), (1, zI q), (2, zI k), (6, .adr 6 0)] [(6, ⟨32, zw6⟩)]) yz ?_
  exact aN _ _ (Ext.refl _) ⟨(Nt.fold p q), rfl, (Nt.fold_le p q aG), rfl⟩
 have qhb19 := of_decide_eq_false a3
 refine zzr (zzo ?_)
 refine zzd (sw_joinP (I := fun S' u' => ∃ (r : Nat), (Nt.fold p q = r) ∧ (r ≤ q) ∧ (S' = St.of 113 [(0, zI r), (1, zI q), (2, zI k), (6, .adr 6 0)] [(6, ⟨32, zw6⟩)])) ?_ (fun aA => ?_))
 ·rintro _ c3 c2 ⟨r, hr, hfl, rfl⟩
  refine sq9 (zza 49 (zI r) (zyp 50 (x := zI (IntKind.i64.wrap ((2 : Int) * (r : Int)))) (zI (2 * r : Nat)) (eqI xk) (zza 51 (zI q) (zza 52 (zB (decide ((q : Int) < ((2 * r : Nat) : Int)))) (zza 8 (zB (decide ((q : Int) < ((2 * r : Nat) : Int)))) (zzb (zzd (sw_joinP (I := fun S' u' => ∃ (s : Nat) (ng : Bool), ((ng = true ∧ q < 2 * r ∧ s = q - r) ∨ (ng = false ∧ ¬ q < 2 * r ∧ s = r)) ∧ (2 * s ≤ q) ∧ (S' = St.of 113 [(0, zI s), (1, zI q), (2, zI k), (6, .adr 6 0), (8, zB ng)] [(6, ⟨32, zw6⟩)])) ?_ (fun az => ?_)))))))))
  ·rintro _ c7 c1 ⟨s, ng, hs, hsq, rfl⟩
   refine sq9 (zza 57 (.v (.agg #[.bool false, .slice none 0 0, .slice none 0 0, .bool false, .slice none 0 0, .slice none 0 0])) (zzj 9 ⟨32, zw6⟩ (zzi ⟨32, zw6⟩ ty32 ?_)))
   refine zzb (zzd (sw_joinP (I := fun S' u' => ∃ (x1 : RL) (x2 : RL), (S' = St.of 113 [(6, .adr 6 0), (8, zB ng), (9, .adr 9 0)] [(6, ⟨32, zw6⟩), (9, ⟨32, x1.cs ++ x2.cs⟩)]) ∧ (RatN u' x1 (Nt.cosA s q k).1 200) ∧ (RatN u' x2 (Nt.cosA s q k).2 200)) ?_ (fun ak => ?_)))
   ·rintro _ di dc ⟨x1, x2, rfl, bE, bu⟩
    refine zzd (sq9 (zza 104 (zB ng) (zzb (zzt (b := ng) xj (fun al => ?_) (fun al => ?_)))))
    ·replace al : ng = true := al
     refine zzy [0, 1, 3, 0, 8, 31, 63, 127] [(0, []), (1, []), (3, []), (4, []), (2, []), (5, []), (6, []), (7, [])] xj xj (zza 105 (.adr 9 3) (zzh 106 (.v (x2.v)) ty26 zze (zza 108 (.adr 9 0) (zzh 109 (.v (x1.v)) ty26 zze (zzg 107 39 _ fun _ _ bB cG => Post.mono (k_rqNeg cG (bu.ext bB).raw xq) ?_)))))
     rintro _ ee cx ⟨ai, rfl, bT⟩
     refine zzg 110 39 _ fun _ _ bq cj => Post.mono (k_rqNeg cj (bE.ext (bB.t (cx.t bq))).raw xq) ?_
     rintro _ ej cb ⟨ah, rfl, ci⟩
     refine zza 111 (.v (.agg #[.bool ai.s, ai.m.v, ai.d.v, .bool ah.s, ah.m.v, ah.d.v])) (zzi ⟨32, ai.cs ++ ah.cs⟩ ty32 ?_)
     refine zzb (sq9 (zzh 112 (.v (.agg #[.bool ai.s, ai.m.v, ai.d.v, .bool ah.s, ah.m.v, ah.d.v])) ty32 zze (zzi ⟨32, ai.cs ++ ah.cs⟩ ty32 ?_)))
     refine zza 7 (zI 0) (zzb (zzn (ret0 [.agg #[.bool ai.s, ai.m.v, ai.d.v, .bool ah.s, ah.m.v, ah.d.v], .int .i64 0] ⟨zzq ty32 zze, zzp, trivial⟩ fun eA bH => ?_)))
     have hs9 := hs.resolve_right (fun h => by rw [al] at h; exact absurd h.1 xw)
     have hc := Nt.cosV_hi (b := k) hr hs9.2.1
     rw [← hs9.2.2] at hc
     refine ⟨ai, ah, rfl, RatN.more (K := 200) ?_ xq, RatN.more (K := 200) ?_ xq⟩
     ·rw [hc]; exact (bT.ext (bq.t (cb.t bH)))
     rw [hc]; exact (ci.ext bH)
    replace al : ng = false := al
    refine zzr (zzo ?_)
    refine sq9 (zzh 112 (.v (.agg #[.bool x1.s, x1.m.v, x1.d.v, .bool x2.s, x2.m.v, x2.d.v])) ty32 zze (zzi ⟨32, x1.cs ++ x2.cs⟩ ty32 ?_))
    refine zza 7 (zI 0) (zzb (zzn (ret0 [.agg #[.bool x1.s, x1.m.v, x1.d.v, .bool x2.s, x2.m.v, x2.d.v], .int .i64 0] ⟨zzq ty32 zze, zzp, trivial⟩ fun d8 bK => ?_)))
    have hs9 := hs.resolve_left (fun h => by rw [al] at h; exact absurd h.1 xw)
    have hc := Nt.cosV_lo (b := k) hr hs9.2.1
    rw [← hs9.2.2] at hc
    refine ⟨x1, x2, rfl, RatN.more (K := 200) ?_ xq, RatN.more (K := 200) ?_ xq⟩
    ·rw [hc]; exact (bE.ext bK)
    rw [hc]; exact (bu.ext bK)
   refine zzs (sq9 (zza 83 (zI s) (zza 84 (zB ((s : Int) == 0)) (zza 82 (zB ((s : Int) == 0)) (zzb (zzt (b := (s : Int) == 0) xj (fun aw => ?_) (fun aw => ?_)))))))
   ·have a6 : (s : Int) = 0 := by simpa using aw
    have ac : s = 0 := by have h9 := aw; simp at h9; omega
    refine zzf (zzg 85 30 _ fun _ _ b2 b4 => Post.mono (k_rqOf b4 (z := 1) xq xq) ?_)
    rintro _ dp bP ⟨dY, rfl, bV⟩
    refine zza 86 (zI k) (zzg 87 105 _ fun _ _ bG cK => Post.mono (k_r10point (k := k) cK (bV.ext bG) xq xq) ?_)
    rintro _ ew cO ⟨aZ, bc, rfl, b7, b3⟩
    refine zzi ⟨32, aZ.cs ++ bc.cs⟩ ty32 ?_
    refine zzw ?_
    refine zzo ?_
    have hcA := Nt.cosA_0 (r := s) (q := q) (b := k) ac
    refine sw_weak (T := St.of 113 [(6, .adr 6 0), (8, zB ng), (9, .adr 9 0)] [(6, ⟨32, zw6⟩), (9, ⟨32, aZ.cs ++ bc.cs⟩)]) yz ?_
    exact ak _ _ (b2.t (bP.t (bG.t cO.ext))) ⟨aZ, bc, rfl, (by rw [hcA]; exact RatN.more b7 xq), (by rw [hcA]; exact RatN.more b3 xq)⟩
   have a6 : ¬ ((s : Int) = 0) := by simpa using aw
   have ac : ¬ s = 0 := by have h9 := aw; simp at h9; omega
   refine sq9 (zza 89 (zI s) (zyp 90 (x := zI (IntKind.i64.wrap ((2 : Int) * (s : Int)))) (zI (2 * s : Nat)) (eqI xk) (zza 91 (zI q) (zza 92 (zB (((2 * s : Nat) : Int) == (q : Int))) (zza 88 (zB (((2 * s : Nat) : Int) == (q : Int))) (zzb (zzt (b := ((2 * s : Nat) : Int) == (q : Int)) xj (fun aR => ?_) (fun aR => ?_))))))))
   ·have aj : 2 * s = q := by have h9 := aR; simp at h9; omega
    refine zzf (zzg 93 30 _ fun _ _ ch b6 => Post.mono (k_rqOf b6 (z := 0) xq xq) ?_)
    rintro _ dF cl ⟨d3, rfl, cq⟩
    refine zza 94 (zI k) (zzg 95 105 _ fun _ _ bx cw => Post.mono (k_r10point (k := k) cw (cq.ext bx) xq xq) ?_)
    rintro _ dV cA ⟨a1, be, rfl, bN, cN⟩
    refine zzi ⟨32, a1.cs ++ be.cs⟩ ty32 ?_
    refine zzw ?_
    refine zzo ?_
    have hcA := Nt.cosA_h (r := s) (q := q) (b := k) ac aj
    refine sw_weak (T := St.of 113 [(6, .adr 6 0), (8, zB ng), (9, .adr 9 0)] [(6, ⟨32, zw6⟩), (9, ⟨32, a1.cs ++ be.cs⟩)]) yz ?_
    exact ak _ _ (ch.t (cl.t (bx.t cA.ext))) ⟨a1, be, rfl, (by rw [hcA]; exact RatN.more bN xq), (by rw [hcA]; exact RatN.more cN xq)⟩
   have aj : ¬ 2 * s = q := by have h9 := aR; simp at h9; omega
   refine sq9 (zza 97 (zI s) (zyp 98 (x := zI (IntKind.i64.wrap ((3 : Int) * (s : Int)))) (zI (3 * s : Nat)) (eqI xk) (zza 99 (zI q) (zza 100 (zB (((3 * s : Nat) : Int) == (q : Int))) (zza 96 (zB (((3 * s : Nat) : Int) == (q : Int))) (zzb (zzt (b := ((3 * s : Nat) : Int) == (q : Int)) xj (fun aS => ?_) (fun aS => ?_))))))))
   ·have ar : 3 * s = q := by have h9 := aS; simp at h9; omega
    refine zzf (zzg 101 75 _ fun _ _ cg cC => Post.mono (k_rqFrac cC (a := 1) (b := 2) xq xq xq xq) ?_)
    rintro _ en bU ⟨dz, rfl, cf⟩
    refine zza 102 (zI k) (zzg 103 105 _ fun _ _ bl cy => Post.mono (k_r10point (k := k) cy (cf.ext bl) xq xq) ?_)
    rintro _ dT cQ ⟨aY, a5, rfl, b8, bW⟩
    refine zzi ⟨32, aY.cs ++ a5.cs⟩ ty32 ?_
    refine zzw ?_
    refine zzo ?_
    have hcA := Nt.cosA_3 (r := s) (q := q) (b := k) ac aj ar
    refine sw_weak (T := St.of 113 [(6, .adr 6 0), (8, zB ng), (9, .adr 9 0)] [(6, ⟨32, zw6⟩), (9, ⟨32, aY.cs ++ a5.cs⟩)]) yz ?_
    exact ak _ _ (cg.t (bU.t (bl.t cQ.ext))) ⟨aY, a5, rfl, (by rw [hcA]; exact RatN.more b8 xq), (by rw [hcA]; exact RatN.more bW xq)⟩
   have ar : ¬ 3 * s = q := by have h9 := aS; simp at h9; omega
   refine sq9 (zza 10 (zB false) (zzb (sq9 (zza 58 (zI s) (zza 59 (zI q) (zzg 60 75 _ fun _ _ bM cB => Post.mono (k_rqFrac cB (a := (s : Int)) (b := (q : Int)) xq xq xq xq) ?_))))))
   rintro _ eh cJ ⟨eE, rfl, cu⟩
   refine zza 61 (zI s) (zza 62 (zI q) (zzg 63 75 _ fun _ _ bm cv => Post.mono (k_rqFrac cv (a := (s : Int)) (b := (q : Int)) xq xq xq xq) ?_))
   rintro _ dn bn ⟨ed, rfl, bY⟩
   refine zzg 64 38 _ fun _ _ a2 cn => Post.mono (k_r4Make cn (cu.ext (bm.t (bn.t a2))).raw (bY.ext a2).raw xq) ?_
   rintro _ cV cR ⟨aF, aE, rfl, bQ, bS⟩
   refine zzj 11 ⟨32, zw6⟩ (zzi ⟨32, aF.cs ++ aE.cs⟩ ty32 ?_)
   refine zzb (sq9 (zza 65 (zI k) (zyp 66 (x := zI (IntKind.i64.wrap ((k : Int) + 16))) (zI (k + 16 : Nat)) (eqI xk) (zza 12 (zI (k + 16 : Nat)) (zzb (zzs (zym (I := fun bC S' u' => ∃ (t : Nat) (wk : Nat) (ok : Bool) (x1 : RL) (x2 : RL), (bC = t) ∧ (k + 16 ≤ wk) ∧ (wk ≤ 1400) ∧ (ok = true ∨ (t = 2001 - wk ∧ (wk ≤ 674 ∨ wk = k + 16))) ∧ (S' = St.of 113 [(2, zI k), (6, .adr 6 0), (8, zB ng), (9, .adr 9 0), (10, zB ok), (11, .adr 11 0), (12, zI wk)] [(6, ⟨32, zw6⟩), (9, ⟨32, x1.cs ++ x2.cs⟩), (11, ⟨32, aF.cs ++ aE.cs⟩)]) ∧ (Ext cV u') ∧ (IfI u' ok x1 x2 (Nt.gr k (Nt.flo (Nt.coN s q) k)) (Nt.gr k (Nt.flo (Nt.coN s q) k + 1)))) (fun m S u1 u2 e h => by obtain ⟨t, wk, ok, x1, x2, hm, p0, p1, p2, hS, hE, f0⟩ := h; exact ⟨t, wk, ok, x1, x2, hm, p0, p1, p2, hS, hE.trans e, f0.ext e⟩) _ yz ⟨(2001 - (k + 16)), (k + 16), false, (⟨false, ⟨none, 0, 0⟩, ⟨none, 0, 0⟩⟩ : RL), (⟨false, ⟨none, 0, 0⟩, ⟨none, 0, 0⟩⟩ : RL), rfl, by omega, by omega, .inr ⟨rfl, .inr rfl⟩, rfl, (Ext.refl _), (fun h => absurd h xw)⟩ ?_)))))))
   rintro bC _ ex ⟨t, wk, ok, x1, x2, de, d0, dX, cU, rfl, aX, f0⟩
   refine zzd (sq9 (zza 67 (zB ok) (zza 68 (zB (!ok)) (zzc 113 [(2, zI k), (6, .adr 6 0), (8, zB ng), (9, .adr 9 0), (11, .adr 11 0), (12, zI wk), (68, zB (!ok))] [(6, ⟨32, zw6⟩), (9, ⟨32, x1.cs ++ x2.cs⟩), (11, ⟨32, aF.cs ++ aE.cs⟩)] (zzt (b := !ok) xj (fun aC => ?_) (fun aC => ?_))))))
   ·have hok := Nt.not_t aC
    have eu : t = 2001 - wk ∧ (wk ≤ 674 ∨ wk = k + 16) := cU.resolve_left (by rw [hok]; decide)
    have hg := hG s xq xq xq
    refine zzr (zzo ?_)
    refine zzd (zzs (zzy [0, 1, 0, 7, 0, 31, 0, 127, 255, 511, 511, 1023, 4095] [(0, []), (2, []), (4, []), (6, []), (1, []), (3, []), (5, []), (7, []), (8, []), (9, []), (10, []), (11, []), (12, [])] xj xj (zza 72 (zI wk) (zzh 74 (.v (.agg #[.bool aF.s, aF.m.v, aF.d.v, .bool aE.s, aE.m.v, aE.d.v])) ty32 zze (zza 76 (zI wk) (zza 78 (zI k) (zzg 73 104 _ fun _ _ a8 cm => Post.mono (k_r10pi cm (k := wk) xq xq) ?_)))))))
    rintro _ dx a9 ⟨da, dm, bk, bt, rfl, br, bJ, aP⟩
    refine zzg 75 68 _ fun _ _ aU ct => Post.mono (k_r4Mul ct (br.ext aU).raw (bJ.ext aU).raw (bQ.ext (aX.t (a8.t (a9.t aU)))).raw (bS.ext (aX.t (a8.t (a9.t aU)))).raw xq xq) ?_
    rintro _ dP cI ⟨d6, eg, rfl, bO, ck⟩
    refine zzg 77 106 _ fun _ _ a7 bR => Post.mono (k_r10cos (p := s) (q := q) (k := wk) (a := bk) (b := bt) (K := 1000) bR aP aG xq xq xq xq (by have h9 := (bO.ext a7); rw [(Nt.cs_x (aP.bd xq).2.2.1 (Nt.fr_nn aG)).1] at h9; exact RatN.more (L := 1000) h9 xq) (by have h9 := (ck.ext a7); rw [(Nt.cs_x (aP.bd xq).2.2.1 (Nt.fr_nn aG)).2] at h9; exact RatN.more (L := 1000) h9 xq) xq) ?_
    rintro _ dC ca ⟨c4, dd, am, ap, rfl, bL, bF, aV⟩
    refine zzg 79 103 _ fun _ _ bf cE => Post.mono (k_r10tight (k := k) (m := wk) (a := am) (b := ap) cE (bL.ext bf) (bF.ext bf) xq xq xq) ?_
    rintro _ ec cp ⟨ae, ad, rfl, bj⟩
    refine zza 71 (.v (.tuple #[.agg #[.bool ae.s, ae.m.v, ae.d.v, .bool ad.s, ad.m.v, ad.d.v], .bool (!(Nt.cmpS (am / Nt.u2 (wk - k)) (ap / Nt.u2 (wk - k)) != 0))])) (zza 80 (.v (.agg #[.bool ae.s, ae.m.v, ae.d.v, .bool ad.s, ad.m.v, ad.d.v])) (zza 81 (zB (!(Nt.cmpS (am / Nt.u2 (wk - k)) (ap / Nt.u2 (wk - k)) != 0))) (zzi ⟨32, ae.cs ++ ad.cs⟩ ty32 ?_)))
    refine zza 10 (zB (!(Nt.cmpS (am / Nt.u2 (wk - k)) (ap / Nt.u2 (wk - k)) != 0))) (zzw ?_)
    refine zzo (zzf (zza 69 (zI wk) (zyp 70 (x := zI (IntKind.i64.wrap ((wk : Int) * 2))) (zI (wk * 2 : Nat)) (eqI xk) (zza 12 (zI (wk * 2 : Nat)) (zzw ?_)))))
    obtain ⟨t1, cT, hlt⟩ : ∃ t1 : Nat, ((!(Nt.cmpS (am / Nt.u2 (wk - k)) (ap / Nt.u2 (wk - k)) != 0)) = true ∨ (t1 = 2001 - wk * 2 ∧ (wk * 2 ≤ 674 ∨ wk * 2 = k + 16))) ∧ t1 < t := by (cases hcc : (Nt.cmpS (am / Nt.u2 (wk - k)) (ap / Nt.u2 (wk - k)) != 0) with | false => exact ⟨0, .inl rfl, by omega⟩ | true => (have hny := Nt.not_yet hg aV.1 (Nt.csR_bd aV aG xq xq).2.2.2.2.2 hcc; exact ⟨2001 - wk * 2, .inr ⟨rfl, .inl xq⟩, by omega⟩))
    refine ⟨_, ?_, _, by exact zzu _ _ _, t1, wk * 2, (!(Nt.cmpS (am / Nt.u2 (wk - k)) (ap / Nt.u2 (wk - k)) != 0)), ae, ad, rfl, by omega, by omega, cT, rfl, (aX.t (a8.t (a9.t (aU.t (cI.t (a7.t (ca.t (bf.t cp.ext)))))))), (fun h => by have h8 := Nt.not_t h; have h9 := bj h8; rw [Nt.flo_of aV.1 xq h8] at h9; exact ⟨h9.1, h9.2⟩)⟩
    omega
   refine zyb (zzo ?_)
   have hcA := Nt.cosA_g (r := s) (q := q) (b := k) ac aj ar
   refine sw_weak (T := St.of 113 [(6, .adr 6 0), (8, zB ng), (9, .adr 9 0)] [(6, ⟨32, zw6⟩), (9, ⟨32, x1.cs ++ x2.cs⟩)]) yz ?_
   exact ak _ _ (bM.t (cJ.t (bm.t (bn.t (a2.t (cR.t aX)))))) ⟨x1, x2, rfl, (by rw [hcA]; exact RatN.more (f0 (Nt.not_f aC)).1 xq), (by rw [hcA]; exact RatN.more (f0 (Nt.not_f aC)).2 xq)⟩
  refine sq9 (zza 53 (zB (decide ((q : Int) < ((2 * r : Nat) : Int)))) (zzb (zzt (b := decide ((q : Int) < ((2 * r : Nat) : Int))) xj (fun ab => ?_) (fun ab => ?_))))
  ·have qhb242 := of_decide_eq_true ab
   refine zzf (zza 54 (zI q) (zza 55 (zI r) (zyp 56 (x := zI (IntKind.i64.wrap ((q : Int) - (r : Int)))) (zI (q - r : Nat)) (eqI xk) (zza 0 (zI (q - r : Nat)) (zzc 113 [(0, zI (q - r : Nat)), (1, zI q), (2, zI k), (6, .adr 6 0), (8, zB (decide ((q : Int) < ((2 * r : Nat) : Int))))] [(6, ⟨32, zw6⟩)] ?_)))))
   exact az _ _ (Ext.refl _) ⟨q - r, (decide ((q : Int) < ((2 * r : Nat) : Int))), (.inl ⟨ab, by have h9 := of_decide_eq_true ab; omega, rfl⟩), (by have h9 := of_decide_eq_true ab; omega), rfl⟩
  have qhb242 := of_decide_eq_false ab
  refine zzr (zzo ?_)
  refine sw_weak (T := St.of 113 [(0, zI r), (1, zI q), (2, zI k), (6, .adr 6 0), (8, zB (decide ((q : Int) < ((2 * r : Nat) : Int))))] [(6, ⟨32, zw6⟩)]) yz ?_
  exact az _ _ (Ext.refl _) ⟨r, (decide ((q : Int) < ((2 * r : Nat) : Int))), (.inr ⟨ab, by have h9 := of_decide_eq_false ab; omega, rfl⟩), (by have h9 := of_decide_eq_false ab; omega), rfl⟩
 refine sq9 (zza 42 (zI (Int.tmod p (2 * (q : Int)))) (zza 43 (zI q) (zza 44 (zB (decide ((q : Int) < (Int.tmod p (2 * (q : Int)))))) (zzb (zzt (b := decide ((q : Int) < (Int.tmod p (2 * (q : Int))))) xj (fun aJ => ?_) (fun aJ => ?_))))))
 ·have qhb243 := of_decide_eq_true aJ
  refine zzf (zza 45 (zI q) (zyp 46 (x := zI (IntKind.i64.wrap ((2 : Int) * (q : Int)))) (zI (2 * q : Nat)) (eqI xk) (zza 47 (zI (Int.tmod p (2 * (q : Int)))) (zyp 48 (x := zI (IntKind.i64.wrap (((2 * q : Nat) : Int) - (Int.tmod p (2 * (q : Int)))))) (zI (((2 * q : Nat) : Int) - (Int.tmod p (2 * (q : Int))))) yv (zza 0 (zI (((2 * q : Nat) : Int) - (Int.tmod p (2 * (q : Int))))) ?_)))))
  have hfold : (((2 * q : Nat) : Int) - (Int.tmod p (2 * (q : Int)))) = ((Nt.fold p q : Nat) : Int) := by unfold Nt.fold; dsimp only; split <;> omega
  rw [hfold]
  refine zzc 113 [(0, zI (((Nt.fold p q) : Nat) : Int)), (1, zI q), (2, zI k), (6, .adr 6 0)] [(6, ⟨32, zw6⟩)] ?_
  exact aA _ _ (Ext.refl _) ⟨(Nt.fold p q), rfl, (Nt.fold_le p q aG), rfl⟩
 have qhb243 := of_decide_eq_false aJ
 refine zzr (zzo ?_)
 have hfold : (Int.tmod p (2 * (q : Int))) = ((Nt.fold p q : Nat) : Int) := by unfold Nt.fold; dsimp only; split <;> omega
 rw [hfold]
 refine sw_weak (T := St.of 113 [(0, zI (((Nt.fold p q) : Nat) : Int)), (1, zI q), (2, zI k), (6, .adr 6 0)] [(6, ⟨32, zw6⟩)]) yz ?_
 exact aA _ _ (Ext.refl _) ⟨(Nt.fold p q), rfl, (Nt.fold_le p q aG), rfl⟩
theorem k_r10SqrtG {u w : World} {r : RL} {q : Rat} {K k : Nat} (d : Dat u w) (hr : RatV u r q K) (hq0 : 0 ≤ q) (hk : k ≤ 256) (hK : K ≤ 100) : Calls Tryz.prog 19 #[r.v, .int .i64 (k : Int)] w (Post u w fun v u' => ∃ r1 r2 : RL, v = .tuple #[IV r1 r2, .int .i64 0] ∧ RatN u' r1 (Nt.gr k (Nt.rtN q 2 k : Int)) 5000 ∧ RatN u' r2 (Nt.gr k (Nt.rtH q 2 k)) 5000) := by
 refine zzl (args := [r.v, .int .i64 k]) Tryz.func19 rfl Tryz.ntmps19 (rs := [.cell 4 32, .tmp 5]) Tryz.results19 (le_b rfl) (le_b rfl) d ?_
 refine sq9 (zzj 2 ⟨26, r.cs⟩ (zzj 4 ⟨32, zw6⟩ (zza 5 (zI 0) (zzb (sq9 (zzh 6 (.v (r.v)) ty26 zze (zza 7 (zI k) (zzg 8 21 _ fun _ _ ae ag => Post.mono ((show Calls _ _ #[_, .int .i64 (2 : Nat), _] _ _ from k_r10RootG (n := 2) (k := k) ag (hr.ext ae) hq0 xq xq hk hK)) ?_))))))))
 rintro _ u16 g17 ⟨aa, ab, rfl, ad, af⟩
 refine zza 9 (.v (.agg #[.bool aa.s, aa.m.v, aa.d.v, .bool ab.s, ab.m.v, ab.d.v])) (zza 10 (zI 0) (zzi ⟨32, aa.cs ++ ab.cs⟩ ty32 ?_))
 refine zza 5 (zI 0) (zzb (zzn (ret0 [.agg #[.bool aa.s, aa.m.v, aa.d.v, .bool ab.s, ab.m.v, ab.d.v], .int .i64 0] ⟨zzq ty32 zze, zzp, trivial⟩ fun u19 ac => ?_)))
 exact ⟨aa, ab, rfl, (ad.ext ac), (af.ext ac)⟩
set_option maxHeartbeats 8000000 in
theorem k_r37matrix {u w : World} {n k : Nat} (d : Dat u w) (hn1 : 1 ≤ n) (hn2 : n ≤ 64) (hk : k ≤ 256) (hG : Nt.GapQ (2 * n) k) : Calls Tryz.prog 67 #[.int .i64 (n : Int), .int .i64 (k : Int)] w (Post u w fun v u' => ∃ (x : Sl) (Rs : List Sl) (Ls : List (List RL)), v = .tuple #[x.v, .int .i64 0] ∧ MatQ 2 84 32 u.heap.size u' x Rs Ls ∧ MatN u' Ls (Nt.dmM n k) (5000 + 200 + 1)) := by
 refine zzl (args := [.int .i64 n, .int .i64 k]) Tryz.func67 rfl Tryz.ntmps67 (rs := [.tmp 4, .tmp 5]) Tryz.results67 (le_b rfl) (le_b rfl) d ?_
 refine sq9 (zza 4 (.v (.slice none 0 0)) (zza 5 (zI 0) (zzb (zzd (sq9 (zza 13 (zI n) (zzg 14 113 _ fun _ _ aV bk => Post.mono (k_in bk (z := (n : Int)) (a := 1) (b := 64)) ?_)))))))
 rintro _ u12 a1 rfl
 refine zza 15 (zB (!(decide ((1 : Int) ≤ (n : Int)) && decide ((n : Int) ≤ 64)))) (zqB 16 (show (!(decide ((1 : Int) ≤ (n : Int)) && decide ((n : Int) ≤ 64))) = false from zq) (zza 17 (zI k) ?_ (hw := w1 3 false 16)))
 refine zzg 18 113 _ (fun _ _ aT bA => Post.mono (k_in bA (z := (k : Int)) (a := 0) (b := 256)) ?_) (hw := w1 3 false 16)
 rintro _ a7 aY rfl
 refine zza 19 (zB (!(decide ((0 : Int) ≤ (k : Int)) && decide ((k : Int) ≤ 256)))) ?_ (hw := w1 3 false 16)
 refine zza 20 (zB (!(decide ((0 : Int) ≤ (k : Int)) && decide ((k : Int) ≤ 256)))) (zzb (zzt (b := !(decide ((0 : Int) ≤ (k : Int)) && decide ((k : Int) ≤ 256))) xj (fun hb => ?_) (fun hb => ?_)))
 ·exact absurd hb (by rw [show (!(decide ((0 : Int) ≤ (k : Int)) && decide ((k : Int) ≤ 256))) = false from zq]; decide)
 clear hb
 refine zzr (zzo ?_)
 refine sq9 (zza 21 (zI n) (sy_makeF 22 (T := 81) (E := 84) (z := .slice none 0 0) (size := 1) (bytes := 24) n ((List.replicate n sl0).map Sl.v) xj xj rfl rfl xq yq (made_sls _) (fun ab a5 a4 bt bC a8 => ?_)))
 have aG : MutQ 1 84 a7.heap.size a5 (⟨some ⟨ab, 0, none⟩, n, n⟩ : Sl) ((List.replicate n sl0).map Sl.v) := MutQ.lit bt (by rw [List.length_map, List.length_replicate, Nat.mul_one]) yq a8 (nu_sls _)
 have hlow := MutQ.low aG (Ext.size (aV.t (a1.t (aT.t aY.ext))))
 refine zza 6 (.v (.slice (some ⟨ab, 0, none⟩) n n)) (zzb (zzd (sq9 (zza 7 (zI 0) (zzb (zzs (zym (I := fun a0 S' u' => ∃ (i : Nat) (R1 : List Sl) (L1 : List (List RL)), (a0 = n - i) ∧ (i ≤ n) ∧ (L1.length = n) ∧ (∀ k, i ≤ k → L1.getD k [] = []) ∧ (S' = St.of 74 [(0, zI n), (1, zI k), (6, .v (.slice (some ⟨ab, 0, none⟩) n n)), (7, zI i)] []) ∧ (Ext u u') ∧ (MatQ 2 84 32 u.heap.size u' (⟨some ⟨ab, 0, none⟩, n, n⟩ : Sl) R1 L1) ∧ (MatP u' L1 (Nt.dmM n k) i (5000 + 200 + 1))) (fun m S u1 u2 e h => by obtain ⟨i, R1, L1, hm, p0, p1, p2, hS, hE, f0, f1⟩ := h; exact ⟨i, R1, L1, hm, p0, p1, p2, hS, hE.trans e, f0.ext e, f1.ext e⟩) _ yz ⟨0, (List.replicate n sl0), (List.replicate n []), rfl, by omega, by rw [List.length_replicate], (fun k _ => by rw [List.getD_eq_getElem?_getD, List.getElem?_replicate]; split <;> rfl), rfl, (aV.t (a1.t (aT.t (aY.t a4)))), (MatQ.ext (MatQ.nil n hlow) (Ext.refl _)), (MatP.zero _ _ _ _)⟩ ?_)))))))
 rintro a0 _ u22 ⟨i, R1, L1, bi, hi, aU, hem, rfl, bb, z0, z1⟩
 have hRz := z0.len
 refine zzd (sq9 (zza 23 (zI i) (zza 24 (zI n) (zza 25 (zB (decide ((i : Int) < (n : Int)))) (zzb (zzt (b := decide ((i : Int) < (n : Int))) xj (fun av => ?_) (fun av => ?_)))))))
 ·have qhb23 := of_decide_eq_true av
  refine zzr (zzo ?_)
  refine zzd (zzs (sq9 (zza 29 (zI n) (zzg 30 75 _ fun _ _ aP bo => Post.mono (k_rqFrac bo (a := 2) (b := (n : Int)) xq xq xq xq) ?_))))
  rintro _ u27 aN ⟨r25, rfl, bs⟩
  refine zza 31 (zI k) (zzg 32 19 _ fun _ _ aF bp => Post.mono (k_r10SqrtG (k := k) bp (bs.ext aF).raw (Nt.div_nn (Rat.intCast_le_intCast.2 xw) (Nt.castI_pos xq)) xq xq) ?_)
  rintro _ u35 aQ ⟨ap, am, rfl, bc, bm⟩
  refine zza 28 (.v (.tuple #[.agg #[.bool ap.s, ap.m.v, ap.d.v, .bool am.s, am.m.v, am.d.v], .int .i64 0])) (zza 33 (.v (.agg #[.bool ap.s, ap.m.v, ap.d.v, .bool am.s, am.m.v, am.d.v])) (zza 34 (zI 0) (zzj 8 ⟨32, zw6⟩ (zzi ⟨32, ap.cs ++ am.cs⟩ ty32 ?_))))
  refine zza 9 (zI 0) (zzb (zzd (sw_joinP (I := fun S' u' => ∃ (s1 : RL) (s2 : RL), (S' = St.of 74 [(0, zI n), (1, zI k), (6, .v (.slice (some ⟨ab, 0, none⟩) n n)), (7, zI i), (8, .adr 8 0)] [(8, ⟨32, s1.cs ++ s2.cs⟩)]) ∧ (RatN u' s1 (Nt.dmS n k i).1 5000) ∧ (RatN u' s2 (Nt.dmS n k i).2 5000)) ?_ (fun af => ?_))))
  ·rintro _ bu au ⟨s1, s2, rfl, y1, y2⟩
   refine sq9 (zza 10 (zI 0) (zzb (zzs (zym (I := fun a2 S' u' => ∃ (j : Nat) (R2 : List Sl) (L2 : List (List RL)), (a2 = n - j) ∧ (j ≤ n) ∧ (L2.length = n) ∧ (∀ k, i < k → L2.getD k [] = []) ∧ (S' = St.of 74 [(0, zI n), (1, zI k), (6, .v (.slice (some ⟨ab, 0, none⟩) n n)), (7, zI i), (8, .adr 8 0), (10, zI j)] [(8, ⟨32, s1.cs ++ s2.cs⟩)]) ∧ (Ext u u') ∧ (MatQ 2 84 32 u.heap.size u' (⟨some ⟨ab, 0, none⟩, n, n⟩ : Sl) R2 L2) ∧ (MatP u' L2 (Nt.dmM n k) i (5000 + 200 + 1)) ∧ (RatsN u' (L2.getD i []) ((Nt.dmRow n k i).take (2 * j)) (5000 + 200 + 1)) ∧ (RatN u' s1 (Nt.dmS n k i).1 5000) ∧ (RatN u' s2 (Nt.dmS n k i).2 5000)) (fun m S u1 u2 e h => by obtain ⟨j, R2, L2, hm, p0, p1, p2, hS, hE, f0, f1, f2, f3, f4⟩ := h; exact ⟨j, R2, L2, hm, p0, p1, p2, hS, hE.trans e, f0.ext e, f1.ext e, f2.ext e, f3.ext e, f4.ext e⟩) _ yz ⟨0, R1, L1, rfl, by omega, aU, (fun k hk => hem k xq), rfl, (bb.t (aP.t (aN.t (aF.t (aQ.t au))))), (z0.ext (aP.t (aN.t (aF.t (aQ.t au))))), (z1.ext (aP.t (aN.t (aF.t (aQ.t au))))), (by rw [hem i (Nat.le_refl i), Nat.mul_zero, List.take_zero]; exact ⟨rfl, fun k hk => absurd hk (Nat.not_lt_zero k)⟩), y1, y2⟩ ?_))))
   rintro a2 _ bD ⟨j, R2, L2, bj, hj, aX, az, rfl, aZ, f0, f1, f2, f3, f4⟩
   have hRz2 := f0.len
   have be : (L2.getD i []).length = 2 * j := by rw [f2.1, List.length_take, Nt.dmRow_len]; omega
   have hrow2 := MatQ.row f0 i xq
   have aO : (R2.getD i sl0).n = j := by have h9 := hrow2.1; rw [zyx] at h9; omega
   refine zzd (sq9 (zza 44 (zI j) (zza 45 (zI n) (zza 46 (zB (decide ((j : Int) < (n : Int)))) (zzb (zzt (b := decide ((j : Int) < (n : Int))) xj (fun ar => ?_) (fun ar => ?_)))))))
   ·have qhb40 := of_decide_eq_true ar
    refine zzr (zzo ?_)
    refine zzd (zzs (zzd ?_))
    have hpb : (2 * j + 1) * i ≤ 127 * 63 := Nat.mul_le_mul xq xq
    obtain ⟨pz, hpz⟩ : ∃ p, (2 * j + 1) * i = p := ⟨_, rfl⟩
    rw [hpz] at hpb
    refine zzf (zza 50 (zI j) (zyp 51 (x := zI (IntKind.i64.wrap ((2 : Int) * (j : Int)))) (zI (2 * j : Nat)) (eqI xk) (zyp 52 (x := zI (IntKind.i64.wrap (((2 * j : Nat) : Int) + 1))) (zI (((2 * j) + 1 : Nat) : Int)) (eqI xk) (zza 53 (zI i) (zyp 54 (x := zI (IntKind.i64.wrap ((((2 * j) + 1 : Nat) : Int) * (i : Int)))) (zI (pz : Nat)) (eqI (by rw [← hpz, ← Int.natCast_mul]; exact IntWalk.i64_in _ (by rw [hpz]; omega))) (zza 55 (zI n) (zyp 56 (x := zI (IntKind.i64.wrap ((2 : Int) * (n : Int)))) (zI (2 * n : Nat)) (eqI xk) (zza 57 (zI k) (zzg 58 35 _ fun _ _ ao bf => Post.mono (k_r10CosPiG (p := (pz : Int)) (q := 2 * n) (k := k) bf xq xq xq xq xq hG) ?_)))))))))
    rintro _ u46 al ⟨ai, aj, rfl, a6, bz⟩
    refine zza 49 (.v (.tuple #[.agg #[.bool ai.s, ai.m.v, ai.d.v, .bool aj.s, aj.m.v, aj.d.v], .int .i64 0])) (zza 59 (.v (.agg #[.bool ai.s, ai.m.v, ai.d.v, .bool aj.s, aj.m.v, aj.d.v])) (zza 60 (zI 0) (zzj 11 ⟨32, zw6⟩ (zzi ⟨32, ai.cs ++ aj.cs⟩ ty32 ?_))))
    refine zza 12 (zI 0) (zzb (sw_anyX xj 13 rfl ?_))
    refine takeX 0 61 12 (.v (.slice (some ⟨ab, 0, none⟩) n n)) #[true, false, false, false, false, false, false, false, false, false, false, false, false] ?_
    refine takeX 1 62 11 (.v (.int .i64 (i : Int))) #[true, true, false, false, false, false, false, false, false, false, false, false, false] ?_
    refine restX [0, 0, 0, 0, 12, 28, 0, 0, 192, 448, 1020, 2047, 4095] [(2, []), (3, []), (4, []), (5, []), (6, []), (7, []), (8, []), (9, [70])] [] (10, []) [(11, []), (12, [])] xj ?_
    refine zza 63 (.v (.slice (some ⟨ab, 0, none⟩) n n)) (zza 64 (zI i) ?_)
    obtain ⟨b49, aR, aM⟩ := MatQ.cell (i := i) (f0.ext (ao.t al.ext)) xq
    refine zzz 65 (0 + i * 1) (n := n) (off := 0) (sz := 1) (i := (i : Int)) xq aR xq xq sl81 (zyk 66 (.slice (R2.getD i sl0).a (R2.getD i sl0).n (R2.getD i sl0).c) aM ty84 (zzh 67 (.v (.agg #[.bool s1.s, s1.m.v, s1.d.v, .bool s2.s, s2.m.v, s2.d.v])) ty32 zze (zzh 68 (.v (.agg #[.bool ai.s, ai.m.v, ai.d.v, .bool aj.s, aj.m.v, aj.d.v])) ty32 zze (zzg 69 68 _ fun _ _ ah br => Post.mono (k_r4Mul br (f3.ext (ao.t (al.t ah))).raw (f4.ext (ao.t (al.t ah))).raw (a6.ext ah).raw (bz.ext ah).raw xq xq) ?_))))
    rintro _ u55 aw ⟨ag, ae, rfl, bx, bw⟩
    refine sy_dataN 70 ⟨32, ag.cs ++ ae.cs⟩ 1 (fun bn u58 aq bE f58 g58 => ?_)
    refine zzw ?_
    refine exitsK_last ?_
    have hA59 := (f0.ext (ao.t (al.t (ah.t (aw.t aq)))))
    have hB59 := MatQ.row hA59 i xq
    refine sy_appQ 71 (T := 84) (E := 32) (z := .agg #[.bool false, .slice none 0 0, .slice none 0 0, .bool false, .slice none 0 0, .slice none 0 0]) (size := 6) (bytes := 112) (b2 := bn) (off := 0) (m := 1) (R2.getD i sl0) (rcs (L2.getD i [])) (ag.cs ++ ae.cs) hB59 xj xj xj xw rfl (lit_news ((Ext.refl _).cells bE)) (fun v hv => (List.mem_append.1 hv).elim (rl_one ag v) (rl_one ae v)) xw yq xq (nu_app (nu_rl ag) (nu_rl ae)) (nu_app (nu_rl rl0) (nu_rl rl0)) (fun ax ba aI bl aa aJ => ?_)
    have aK : MutQ (2 * 3) 32 u.heap.size ba ax (rcs (L2.getD i [] ++ [ag] ++ [ae])) := by rw [rcs_app, rcs_app, show rcs [ag] = ag.cs from by simp [rcs], show rcs [ae] = ae.cs from by simp [rcs], List.append_assoc]; exact aI
    have eR60 := ExtX.root aa (MutQ.mutL hB59) (aZ.t (ao.t (al.t (ah.t (aw.t aq)))))
    have hO60 := (MatQ.rest xw hA59 (i := i) xq aa).1
    have hP60 := MatP.keep (f1.ext (ao.t (al.t (ah.t (aw.t aq))))) hB59 aa
    have hpr60 := Nt.prs_at (f := Nt.dmE n k i) (n := n) (j := j) xq
    have aB : (Nt.lo4 ((Nt.dmS n k i).1 * (Nt.dmC n k pz).1) ((Nt.dmS n k i).1 * (Nt.dmC n k pz).2) ((Nt.dmS n k i).2 * (Nt.dmC n k pz).1) ((Nt.dmS n k i).2 * (Nt.dmC n k pz).2)) = (Nt.dmRow n k i).getD (2 * j) 0 := by unfold Nt.dmRow; rw [hpr60.1]; unfold Nt.dmE; rw [hpz]
    have aA : (Nt.hi4 ((Nt.dmS n k i).1 * (Nt.dmC n k pz).1) ((Nt.dmS n k i).1 * (Nt.dmC n k pz).2) ((Nt.dmS n k i).2 * (Nt.dmC n k pz).1) ((Nt.dmS n k i).2 * (Nt.dmC n k pz).2)) = (Nt.dmRow n k i).getD (2 * j + 1) 0 := by unfold Nt.dmRow; rw [hpr60.2]; unfold Nt.dmE; rw [hpz]
    have hR60 := app_next (app_next (MutQ.keeps hB59 aa (f2.ext (ao.t (al.t (ah.t (aw.t aq)))))) (MutQ.keep hB59 aa (RatN.more (K := (5000 + 200 + 1)) (bx.ext aq) xq)) (by rw [Nt.dmRow_len]; omega) aB) (MutQ.keep hB59 aa (RatN.more (K := (5000 + 200 + 1)) (bw.ext aq) xq)) (by rw [Nt.dmRow_len]; omega) aA
    obtain ⟨b61, aD, _⟩ := MatQ.cell (i := i) hA59 xq
    refine zzz 72 (0 + i * 1) (n := n) (off := 0) (sz := 1) (i := (i : Int)) xq aD xq xq sl81 (sy_storeQ (v := ax.v) (off := 0 + i * 1) (n := 1) (⟨some ⟨ab, 0, none⟩, n, n⟩ : Sl) hO60 (fun a ha => by injection ha with ha; subst ha; exact .inl bC) aD ty84 (by rw [List.length_map, MatQ.len hA59]; omega) (nu_sls [ax]) (fun aH ay ad => ?_))
    have aL : MutQ 1 84 u.heap.size aH (⟨some ⟨ab, 0, none⟩, n, n⟩ : Sl) ((R2.set i ax).map Sl.v) := by rw [← setL_map (y := ax) (i := i) (by rw [MatQ.len hA59]; omega)]; exact ay
    have hG60 := MatQ.grown xw xw hA59 (i := i) xq aa aK aJ aL ad
    have eS60 := ExtX.root ad (MutQ.mutL hO60) eR60
    have hP260 := MatP.set (L := (L2.getD i [] ++ [ag] ++ [ae])) (MatP.keep hP60 hO60 ad) (Nat.le_refl i)
    have hR260 := MutQ.keeps hO60 ad hR60
    refine zzw ?_
    refine zzo (zzf (zza 47 (zI j) (zyp 48 (x := zI (IntKind.i64.wrap ((j : Int) + 1))) (zI (j + 1 : Nat)) (eqI xk) (zza 10 (zI (j + 1 : Nat)) (zzw ?_)))))
    have aE : (L2.set i (L2.getD i [] ++ [ag] ++ [ae])).getD i [] = (L2.getD i [] ++ [ag] ++ [ae]) := getD_set_same xq
    refine ⟨_, ?_, _, by exact zzu _ _ _, j + 1, (R2.set i ax), (L2.set i (L2.getD i [] ++ [ag] ++ [ae])), rfl, by omega, (by rw [List.length_set]; exact aX), (fun k hk => by rw [getD_set_other xq]; exact az k hk), rfl, eS60, (MatQ.ext hG60 (Ext.refl _)), (MatP.ext hP260 (Ext.refl _)), (by rw [aE]; exact RatsN.ext hR260 (Ext.refl _)), (RatN.ext (MutQ.keep hO60 ad (MutQ.keep hB59 aa (f3.ext (ao.t (al.t (ah.t (aw.t aq))))))) (Ext.refl _)), (RatN.ext (MutQ.keep hO60 ad (MutQ.keep hB59 aa (f4.ext (ao.t (al.t (ah.t (aw.t aq))))))) (Ext.refl _))⟩
    omega
   have qhb40 := of_decide_eq_false ar
   refine zyb (zzo (zzf (zza 26 (zI i) (zyp 27 (x := zI (IntKind.i64.wrap ((i : Int) + 1))) (zI (i + 1 : Nat)) (eqI xk) (zza 7 (zI (i + 1 : Nat)) (zzw ?_))))))
   have hfull : RatsN bD (L2.getD i []) (Nt.dmRow n k i) (5000 + 200 + 1) := by have h9 := f2; rw [List.take_of_length_le (by rw [Nt.dmRow_len]; omega)] at h9; exact h9
   rw [← Nt.dmM_at (n := n) (b := k) (k := i) xq] at hfull
   refine ⟨_, ?_, _, by exact zzu _ _ _, i + 1, R2, L2, rfl, by omega, aX, (fun k hk => az k xq), rfl, aZ, f0, (MatP.next f1 hfull)⟩
   omega
  refine sq9 (zza 35 (zI i) (zza 36 (zB ((i : Int) == 0)) (zzb (zzt (b := (i : Int) == 0) xj (fun ac => ?_) (fun ac => ?_)))))
  ·have aC : (i : Int) = 0 := by simpa using ac
   refine zzf (zza 38 (zI n) (zzg 39 75 _ fun _ _ bv bq => Post.mono (k_rqFrac bq (a := 1) (b := (n : Int)) xq xq xq xq) ?_))
   rintro _ u66 a3 ⟨r64, rfl, bF⟩
   refine zza 40 (zI k) (zzg 41 19 _ fun _ _ aS bh => Post.mono (k_r10SqrtG (k := k) bh (bF.ext aS).raw (Nt.div_nn (Rat.intCast_le_intCast.2 xw) (Nt.castI_pos xq)) xq xq) ?_)
   rintro _ u74 bg ⟨an, ak, rfl, a9, bB⟩
   refine zza 37 (.v (.tuple #[.agg #[.bool an.s, an.m.v, an.d.v, .bool ak.s, ak.m.v, ak.d.v], .int .i64 0])) (zza 42 (.v (.agg #[.bool an.s, an.m.v, an.d.v, .bool ak.s, ak.m.v, ak.d.v])) (zza 43 (zI 0) (zzi ⟨32, an.cs ++ ak.cs⟩ ty32 ?_)))
   refine zzc 74 [(0, zI n), (1, zI k), (6, .v (.slice (some ⟨ab, 0, none⟩) n n)), (7, zI i), (8, .adr 8 0)] [(8, ⟨32, an.cs ++ ak.cs⟩)] ?_
   exact af _ _ (bv.t (a3.t (aS.t bg.ext))) ⟨an, ak, rfl, (by unfold Nt.dmS; rw [if_pos (show i = 0 by have h9 := ac; simp at h9; omega)]; exact a9), (by unfold Nt.dmS; rw [if_pos (show i = 0 by have h9 := ac; simp at h9; omega)]; exact bB)⟩
  have aC : ¬ ((i : Int) = 0) := by simpa using ac
  refine zzr (zzo ?_)
  refine sw_weak (T := St.of 74 [(0, zI n), (1, zI k), (6, .v (.slice (some ⟨ab, 0, none⟩) n n)), (7, zI i), (8, .adr 8 0)] [(8, ⟨32, ap.cs ++ am.cs⟩)]) yz ?_
  exact af _ _ (Ext.refl _) ⟨ap, am, rfl, (by unfold Nt.dmS; rw [if_neg (show ¬ i = 0 by have h9 := ac; simp at h9; omega)]; exact bc), (by unfold Nt.dmS; rw [if_neg (show ¬ i = 0 by have h9 := ac; simp at h9; omega)]; exact bm)⟩
 have qhb23 := of_decide_eq_false av
 refine zyb (zzo (sq9 (zza 73 (.v (.slice (some ⟨ab, 0, none⟩) n n)) (zza 4 (.v (.slice (some ⟨ab, 0, none⟩) n n)) (zza 5 (zI 0) (zzb (zzn (ret0 [.slice (some ⟨ab, 0, none⟩) n n, .int .i64 0] ⟨zzp, zzp, trivial⟩ fun u77 aW => ?_))))))))
 refine ⟨(⟨some ⟨ab, 0, none⟩, n, n⟩ : Sl), R1, L1, rfl, (z0.ext aW), MatP.full (m := n) (by have h9 := (z1.ext aW); rw [show i = n by omega] at h9; exact h9) aU (Nt.dmM_len n k)⟩
end Go.Proofs.YtbolmkfphieogaaGreat

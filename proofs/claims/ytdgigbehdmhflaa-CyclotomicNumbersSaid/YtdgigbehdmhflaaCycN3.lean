/- What the reference's Normal computes, in coordinates. -/
import Derived.Test.YtdgigbehdmhflaaCycN2
namespace Go.Proofs.Ytdgigbehdmhflaa
open Go.RowKit
set_option linter.unusedVariables false
namespace Cyc
section
variable {n : Nat} (h1 : 1 ≤ n) (h2 : n ≤ 64)
include h1 h2
theorem redGo_specG : ∀ (m : Nat) (S : List Int), m + deg n ≤ n → n ≤ S.length → InR S → (∀ k, m + deg n ≤ k → k < n → Cg (S[k]?.getD 0) 0) →
    InR (redGo (T n) (deg n) m S) ∧ (∀ i, Cg (lin n (redGo (T n) (deg n) m S) (fun k => red n k i)) (lin n S (fun k => red n k i))) ∧ ∀ k, deg n ≤ k → k < n → Cg ((redGo (T n) (deg n) m S)[k]?.getD 0) 0
  | 0, S, _, _, hr, hz => ⟨hr, fun i => Cg.refl _, fun k hk hn => hz k (by omega) hn⟩
  | m + 1, S, hm, hl, hr, hz => by
    have hT := T_length n h1 h2
    have hlen : n ≤ (subRow S m (S[m + deg n]?.getD 0) (T n) (T n).length).length := by rw [subRow_length]; exact hl
    have hget := fun i => subRow_get S m (S[m + deg n]?.getD 0) (T n) (T n).length i (by omega)
    obtain ⟨g1, g2, g3⟩ := redGo_specG m (subRow S m (S[m + deg n]?.getD 0) (T n) (T n).length) (by omega) hlen (subRow_inR S _ _ _ hr _ (by omega)) (by
      intro k hk hn
      by_cases e : k = m + deg n
      · subst e
        rw [hget, if_pos (by omega), Option.getD_some, show m + deg n - m = deg n by omega, show (T n)[deg n]?.getD 0 = 1 from T_monic n h1 h2, Int.mul_one]
        have := (wrap_cg (S[m + deg n]?.getD 0 - wrap64 (S[m + deg n]?.getD 0))).trans ((Cg.refl _).sub (wrap_cg (S[m + deg n]?.getD 0)))
        exact this.trans (Cg.of_eq (by omega))
      · rw [hget, if_neg (by omega)]
        exact hz k (by omega) hn)
    rw [redGo]
    refine ⟨g1, fun i => (g2 i).trans ?_, g3⟩
    have := subRow_lin S m (S[m + deg n]?.getD 0) (T n) (fun k => red n k i) (T n).length (n := n) (by omega) (by omega)
    refine this.trans (Cg.of_eq ?_)
    have hz := phi_zero h1 h2 m i
    rw [hT]
    rw [show sumTo (deg n + 1) (fun j => (T n)[j]?.getD 0 * red n (m + j) i) = 0 from hz]
    omega
theorem normalW_specG (S : List Int) (hl : n ≤ S.length) (hr : InR S) : normalW S n = specL n (fun i => wrap64 (lin n S (fun k => red n k i))) := by
  have hd := deg_le n h1 h2
  obtain ⟨g1, g2, g3⟩ := redGo_specG h1 h2 (n - deg n) S (by omega) hl hr (by intro k hk hn; omega)
  apply List.ext_getElem?
  intro i
  by_cases hi : i < deg n
  · rw [specL_get _ _ hi, normalW, List.getElem?_take_of_lt hi]
    have hlen : i < (redGo (T n) (deg n) (n - deg n) S).length := by rw [redGo_length]; omega
    rw [List.getElem?_eq_getElem hlen]
    congr 1
    have hgd : (redGo (T n) (deg n) (n - deg n) S)[i] = (redGo (T n) (deg n) (n - deg n) S)[i]?.getD 0 := by rw [List.getElem?_eq_getElem hlen]; rfl
    rw [hgd, ← wrap_id (g1 i).1 (g1 i).2]
    apply Cg.wrap
    refine Cg.trans (Cg.symm ?_) (g2 i)
    unfold lin
    -- only the term i stays
    have key : Cg (sumTo n (fun k => (redGo (T n) (deg n) (n - deg n) S)[k]?.getD 0 * red n k i)) (sumTo n (fun k => if k = i then (redGo (T n) (deg n) (n - deg n) S)[k]?.getD 0 else 0)) := by
      refine Cg.sum fun k hk => ?_
      by_cases hkt : k < deg n
      · rw [red_lo k hkt]
        by_cases e : k = i
        · subst e; simp; exact Cg.refl _
        · rw [if_neg (by omega), if_neg e]; simp; exact Cg.refl _
      · rw [if_neg (by omega)]
        have := (g3 k (by omega) hk).mul' (red n k i)
        simpa using this
    refine key.trans (Cg.of_eq ?_)
    rw [sumTo_single (k := i) (by omega)]
    · simp
    · intro j _ hne; rw [if_neg hne]
  · rw [List.getElem?_eq_none (by simp [normalW, redGo_length]; omega), List.getElem?_eq_none (by rw [specL_length]; omega)]
end
/-- The list a folded to n elements; the i-th element goes to place p i. -/
def foldN (a : List Int) (n : Nat) (p : Nat → Nat) : Nat → List Int
  | 0 => List.replicate n 0
  | i + 1 => (foldN a n p i).set (p i) (wrap64 ((foldN a n p i)[p i]?.getD 0 + a[i]?.getD 0))
theorem foldN_length (a : List Int) (n : Nat) (p : Nat → Nat) (i : Nat) : (foldN a n p i).length = n := by
  induction i with
  | zero => simp [foldN]
  | succ i ih => simp [foldN, ih]
theorem foldN_inR (a : List Int) (n : Nat) (p : Nat → Nat) (hp : ∀ i, p i < n) : ∀ m, InR (foldN a n p m)
  | 0 => fun j => by simp only [foldN, List.getElem?_replicate]; split <;> simp
  | m + 1 => inR_set (foldN_inR a n p hp m) _ _ (by rw [foldN_length]; exact hp m)
theorem foldN_lin (a : List Int) (n : Nat) (p : Nat → Nat) (hp : ∀ i, p i < n) (g : Nat → Int) : ∀ m, Cg (lin n (foldN a n p m) g) (sumTo m (fun j => a[j]?.getD 0 * g (p j)))
  | 0 => Cg.of_eq (by
    unfold lin
    refine sumTo_zero fun k _ => ?_
    simp only [foldN, List.getElem?_replicate]
    split <;> simp)
  | m + 1 => by
    rw [foldN, lin_set _ _ _ (hp m) (by rw [foldN_length]; exact hp m), sumTo]
    refine (foldN_lin a n p hp g m).add ((?_ : Cg _ _).mul' _)
    refine ((wrap_cg _).sub (Cg.refl _)).trans (Cg.of_eq ?_)
    omega
/-- What Normal returns: the coordinates, wrapped. -/
def normS (n : Nat) (a : List Int) : List Int := specL n (fun i => wrap64 (linS n a 1 i))
theorem norm_eq {n : Nat} (h1 : 1 ≤ n) (h2 : n ≤ 64) (a : List Int) : normalW (foldN a n (fun i => i % n) a.length) n = normS n a := by
  have hp : ∀ i, i % n < n := fun i => Nat.mod_lt _ (by omega)
  rw [normalW_specG h1 h2 _ (by rw [foldN_length]; exact Nat.le_refl _) (foldN_inR _ _ _ hp _)]
  refine specL_congr fun i _ => ?_
  rw [(foldN_lin a n _ hp (fun k => red n k i) a.length).wrap]
  congr 1
  exact sumTo_congr fun j _ => by rw [red_mod h1 h2, Nat.mul_one]
theorem normS_length (n : Nat) (a : List Int) : (normS n a).length = deg n := specL_length _
end Cyc

set_option maxHeartbeats 2000000 in
theorem Normal_any (A : Option Addr) (m c : Nat) (a : List Int) (z : Int) (w : World) (ha : SlR .i64 w A m c a) (hm : m ≤ 1000) (h1 : 1 ≤ z) (h2 : z ≤ 64) :
    Calls Try.prog 43 #[.slice A m c, .int .i64 z] w fun e w' => ∃ A' c', e = .returned (.slice A' (Cyc.deg z.toNat) c') ∧ OwnK .i64 w' w.heap.size 3 A' (Cyc.deg z.toNat) c' (Cyc.normS z.toNat a) ∧ Below w.heap.size w w' := by
  obtain ⟨n, rfl⟩ := Int.eq_ofNat_of_zero_le (show 0 ≤ z by omega)
  rw [Int.toNat_natCast]
  have h1' : 1 ≤ n := by omega
  have h2' : n ≤ 64 := by omega
  have hlen : Hid ((Cyc.T n).length = Cyc.deg n + 1) := Cyc.T_length n h1' h2'
  have hdn := Cyc.deg_le n h1' h2'
  have hN : Hid (Cyc.normS n a = (Cyc.redGo (Cyc.T n) (Cyc.deg n) (n - Cyc.deg n) (Cyc.foldN a n (fun i => i % n) m)).take (Cyc.deg n)) := by
    have e : a.length = m := ha.1
    rw [← Cyc.norm_eq h1' h2' a, e]; exact rfl
  go_enter Try.func43, Try.ntmps43
  go_wp2_with (at_make; refine wpList_makeK _ rfl (.tmp 13) (.tmp 13) _ rfl 3 .i64 8 Try.underlying23 int_info _ _ _ _ n rfl rfl ?L ?C ?b2 ?b3 ?_)
  case L => rfl
  case C => rfl
  case b2 => omega
  case b3 => unfold maxLen; omega
  intro w2 hk2 hb2 hz2
  obtain ⟨g, hg⟩ : ∃ g, g = w.heap.size := ⟨_, rfl⟩
  have hgw1 : w.heap.size ≤ g := by omega
  have hge : Hid (g = w.heap.size) := hg
  rw [← hg] at hk2 ⊢
  clear hz2 hg
  go_wp2
  go_loopw [6] (fun x wr => ∃ i : Nat, i ≤ m ∧ x = .int .i64 i ∧ KBlk .i64 wr g 3 (Cyc.foldN a n (fun i => i % n) i) ∧ Below w.heap.size w wr) (fun x _ => m - (intOf x).toNat)
  case atStart => exact ⟨0, by omega, rfl, hk2, hb2⟩
  case round =>
    obtain ⟨i, hi, rfl, hk, hb⟩ := hrel
    clear hk2 hb2
    by_cases him : i < m
    · obtain ⟨b, o, rfl, _, hca⟩ := (ha.below hb).pos him
      have hmod : i % n < n := Nat.mod_lt _ (by omega)
      have hix : ((i : Int) % n).toNat = i % n := by rw [← Int.natCast_emod]; rfl
      have hix0 : 0 ≤ (i : Int) % n := Int.emod_nonneg _ (by omega)
      have hix1 : (i : Int) % n < n := Int.emod_lt_of_pos _ (by omega)
      have hc := hk.cell (i := i % n) (by rw [Cyc.foldN_length]; exact hmod)
      have hf := hk.frozen (i % n)
      have Hset := Lib.hid (hk.set (i % n) (wrap64 ((Cyc.foldN a n (fun i => i % n) i)[i % n]?.getD 0 + a[i]?.getD 0)))
      go_wp2
      go_region
      go_wp2
      go_roundw
      case rel => exact ⟨i + 1, by omega, by go_num, Hset.out, (hb.setCell (p := ⟨g, i % n, none⟩) hgw1 _).drew⟩
      case measure => simp [intOf]; omega
    · obtain rfl : i = m := by omega
      go_wp2_with fail
      refine (rPhi_yes _ _ h1 h2).mono ?_
      rintro e w3 ⟨A1, c1, rfl, ho1, hb1⟩
      rw [Int.toNat_natCast, hlen.out] at ho1 ⊢
      have hk1 := hk.same hb1
      have hbw1 := hb.trans (hb1.mono hb.size)
      have hsl1 := ho1.slr
      obtain ⟨t, ht⟩ : ∃ t, t = Cyc.deg n := ⟨_, rfl⟩
      rw [← ht] at hsl1 hlen hdn hN ⊢
      have hAg : ∀ a, A1 = some a → a.block ≠ g := by
        obtain ⟨ga, rfl, hga, _⟩ := ho1.pos (by omega)
        rintro a ⟨⟩
        have := hk.lt
        simp
        omega
      have Ht := Lib.hid ht
      clear ho1 hb1 ht hk hb
      go_wp2
      go_loopw [10] (fun x wr => ∃ (j : Nat) (R : List Int), j + t ≤ n ∧ x = .int .i64 ((j : Int) + t - 1) ∧ KBlk .i64 wr g 3 R ∧ Hid (R.length = n) ∧ Below w.heap.size w wr ∧ SlR .i64 wr A1 (t + 1) c1 (Cyc.T n) ∧ Hid (Cyc.normS n a = (Cyc.redGo (Cyc.T n) t j R).take t)) (fun x _ => (intOf x + 1 - t).toNat)
      case atStart => exact ⟨n - t, _, by omega, by go_num, hk1, Cyc.foldN_length _ _ _ _, hbw1, hsl1, hN⟩
      case round =>
        obtain ⟨j, R, hj, rfl, hk, hR, hb, hsl, hq1⟩ := hrel
        clear hk1 hsl1 hbw1 hN
        rcases j with _ | j
        · have hsk := (hk.slr (n := t) (c := n) (by have := hR.out; omega) (by omega) (by unfold maxLen; omega))
          go_wp2_with (at_builtin; refine wpList_appendK _ rfl (.tmp 83) (.tmp 86) _ rfl 3 .i64 8 Try.underlying23 int_info wr.heap.size (some ⟨wr.heap.size, 0, none⟩) 0 0 [] rfl ?own (some ⟨g, 0, none⟩) t n (R.take t) rfl ?slr ?h63 ?hby ?hbase ?_)
          case own => exact (KBlk.new wr 3 []).own (Nat.le_refl _) rfl (Nat.zero_le _)
          case slr => exact hsk.alloc _
          case h63 => unfold maxLen; omega
          case hby => omega
          case hbase => simp
          intro A2 c2 w4 ho3 hb3
          go_wp2
          go_ret
          have hfin := hq1.out
          rw [Cyc.redGo] at hfin
          obtain rfl := Ht.out
          refine ⟨A2, c2, rfl, ?_, hb.trans (((Below.refl _ _).alloc hb.size _).trans (hb3.mono hb.size))⟩
          rw [hfin]
          exact ho3.mono hb.size
        · have hc1 := hk.cell (i := j + t) (by have := hR.out; omega)
          have hqs : Hid (Cyc.normS n a = (Cyc.redGo (Cyc.T n) t j (Cyc.subRow R j (R[j + t]?.getD 0) (Cyc.T n) (t + 1))).take t) := by
            have := hq1.out
            show _ = _
            rw [this, Cyc.redGo, hlen.out]
          go_wp2
          clear hq1 hc1
          obtain ⟨wo, rfl⟩ : ∃ wo : World, wo = wr := ⟨_, rfl⟩
          go_loopw [12] (fun x wi => ∃ (i : Nat), i ≤ t + 1 ∧ x = .int .i64 i ∧ KBlk .i64 wi g 3 (Cyc.subRow R j (R[j + t]?.getD 0) (Cyc.T n) i) ∧ Below w.heap.size w wi ∧ SlR .i64 wi A1 (t + 1) c1 (Cyc.T n)) (fun x _ => t + 1 - (intOf x).toNat)
          case atStart => exact ⟨0, by omega, rfl, hk, hb, hsl⟩
          case round =>
            obtain ⟨i, hi, rfl, hk, hb, hsl⟩ := hrel
            by_cases hit : i < t + 1
            · obtain ⟨b, o, rfl, hblt, hcq⟩ := hsl.pos (i := i) hit
              have hc2 := hk.cell (i := j + i) (by have := hR.out; rw [Cyc.subRow_length]; omega)
              have hf2 := hk.frozen (j + i)
              have Hset := Lib.hid (hk.set (j + i) (wrap64 ((Cyc.subRow R j (R[j + t]?.getD 0) (Cyc.T n) i)[j + i]?.getD 0 - wrap64 (R[j + t]?.getD 0 * (Cyc.T n)[i]?.getD 0))))
              go_wp2
              go_region
              go_wp2
              go_roundw
              case rel => exact ⟨i + 1, by omega, by go_num, Hset.out, (hb.setCell (p := ⟨g, j + i, none⟩) hgw1 _).drew, (hsl.setCell _ hAg).drewN 1⟩
              case measure => simp [intOf]; omega
            · obtain rfl : i = t + 1 := by omega
              go_wp2
              go_roundw
              case rel => exact ⟨j, _, by omega, by go_num, hk, by have := hR.out; show _ = _; rw [Cyc.subRow_length]; exact this, hb, hsl, hqs⟩
              case measure => simp [intOf]; omega
end Go.Proofs.Ytdgigbehdmhflaa

/- Contracts of nat: cut, cmp.Compare, Compare. -/
import Derived.Test.YtnedhbidmfoegaaGreatProg
import Derived.Test.YtnedhbidmfoegaaGreatNat
import Derived.WalkKit
import Derived.LoopTactic
import Derived.Outline
import Derived.Lib.Hide
import Derived.Deep.QuietTactic
import Derived.BigQuiet
import Derived.BigRegion
namespace Go.Proofs.YtnedhbidmfoegaaGreat
open Go.RowKit
set_option linter.unusedVariables false

namespace Nt
theorem strip_snoc_zero (l : List Int) : strip (l ++ [0]) = strip l := by
  induction l with
  | nil => simp [strip]
  | cons x l ih => rw [List.cons_append, strip, strip, ih]
theorem strip_snoc_ne (l : List Int) {x : Int} (h : x ≠ 0) : strip (l ++ [x]) = l ++ [x] := by
  induction l with
  | nil => simp [strip, h]
  | cons y l ih => rw [List.cons_append, strip, ih, if_neg (by simp)]
theorem take_snoc (l : List Int) (k : Nat) (h : k < l.length) : l.take (k + 1) = l.take k ++ [l[k]?.getD 0] := by
  rw [List.take_succ_eq_append_getElem h, List.getElem?_eq_getElem h]; rfl
/-- -1, 0 or 1, as x is less than, equal to or greater than y. -/
def cmpS (x y : Int) : Int := if x < y then -1 else if x = y then 0 else 1
end Nt
theorem SlR.upto {k : IntKind} {w : World} {A : Option Addr} {n c : Nat} {l : List Int} (h : SlR k w A n c l) {m : Nat} (hm : m ≤ n) : SlR k w A m c (l.take m) := by
  obtain ⟨h1, h2, h3, h4⟩ := h
  refine ⟨by simp; omega, by omega, h3, fun hp => ?_⟩
  obtain ⟨b, o, rfl, hlt, hc⟩ := h4 (by omega)
  exact ⟨b, o, rfl, hlt, fun i hi => by rw [hc i (by omega), List.getElem?_take_of_lt hi]⟩

theorem cut_any (A : Option Addr) (n c : Nat) (l : List Int) (w : World) (h : SlR .u32 w A n c l) :
    Calls Tryz.prog 187 #[.slice A n c] w fun e w' => e = .returned (.slice A (Nt.strip l).length c) ∧ w = w' := by
  have hnc := h.2.1
  have hnm : c ≤ maxLen := h.2.2.1
  unfold maxLen at hnm
  have hln : Hid (l.length = n) := h.1
  go_enter Tryz.func187, Tryz.ntmps187
  go_wp2
  go_loop [3] (fun x => ∃ k : Nat, k ≤ n ∧ x = .int .i64 k ∧ Hid (Nt.strip l = Nt.strip (l.take k))) (fun x => (intOf x).toNat)
  case atStart => exact ⟨n, Nat.le_refl _, rfl, by show _ = _; rw [List.take_of_length_le (by have := hln.out; omega)]⟩
  case round =>
    obtain ⟨k, hk, rfl, hs⟩ := hrel
    rcases k with _ | k
    · have hfin : Hid ((Nt.strip l).length = 0) := by have := hs.out; show _ = _; rw [this]; rfl
      clear hs
      go_wp2
      go_ret
      exact ⟨by rw [hfin.out]; rfl, rfl⟩
    · obtain ⟨b, o, rfl, _, hc⟩ := h.pos (i := k) (by omega)
      have hsn := Nt.take_snoc l k (by have := hln.out; omega)
      by_cases h0 : l[k]?.getD 0 = 0
      · have hs' : Hid (Nt.strip l = Nt.strip (l.take k)) := by
          have := hs.out
          show _ = _
          rw [this, hsn, h0, Nt.strip_snoc_zero]
        rw [h0] at hc
        clear hs hsn h0
        go_wp2
        go_round
        case rel => exact ⟨k, by omega, by go_num, hs'⟩
        case measure => simp [intOf]
      · have hfin : Hid ((Nt.strip l).length = k + 1) := by
          have := hs.out
          show _ = _
          rw [this, hsn, Nt.strip_snoc_ne _ h0, ← hsn]
          simp; have := hln.out; omega
        have hb : (l[k]?.getD 0 == 0) = false := by simpa using h0
        clear hs hsn h0
        go_wp2
        go_ret
        exact ⟨by rw [hfin.out]; rfl, rfl⟩
theorem cmpInt_any (x y : Int) (w : World) : Calls Tryz.prog 188 #[.int .i64 x, .int .i64 y] w fun e w' => e = .returned (.int .i64 (Nt.cmpS x y)) ∧ w' = w := by
  unfold Nt.cmpS
  by_cases h1 : x < y
  · rw [if_pos h1]
    go_enter Tryz.func188, Tryz.ntmps188
    go_wp2
    go_ret
    exact ⟨rfl, rfl⟩
  · by_cases h2 : y < x
    · have h3 : ¬ x = y := by omega
      rw [if_neg h1, if_neg h3]
      clear h3
      go_enter Tryz.func188, Tryz.ntmps188
      go_wp2
      go_ret
      exact ⟨rfl, rfl⟩
    · obtain rfl : x = y := by omega
      rw [if_neg h1, if_pos rfl]
      go_enter Tryz.func188, Tryz.ntmps188
      go_wp2
      go_ret
      exact ⟨rfl, rfl⟩
theorem cmpU32_any (x y : Int) (w : World) : Calls Tryz.prog 189 #[.int .u32 x, .int .u32 y] w fun e w' => e = .returned (.int .i64 (Nt.cmpS x y)) ∧ w' = w := by
  unfold Nt.cmpS
  by_cases h1 : x < y
  · rw [if_pos h1]
    go_enter Tryz.func189, Tryz.ntmps189
    go_wp2
    go_ret
    exact ⟨rfl, rfl⟩
  · by_cases h2 : y < x
    · have h3 : ¬ x = y := by omega
      rw [if_neg h1, if_neg h3]
      clear h3
      go_enter Tryz.func189, Tryz.ntmps189
      go_wp2
      go_ret
      exact ⟨rfl, rfl⟩
    · obtain rfl : x = y := by omega
      rw [if_neg h1, if_pos rfl]
      go_enter Tryz.func189, Tryz.ntmps189
      go_wp2
      go_ret
      exact ⟨rfl, rfl⟩

namespace Nt
theorem len_lt {x y : List Int} (hx : Dig x) (hy : Dig y) (ny : Norm y) (h : x.length < y.length) : val x < val y := by
  have h1 := val_lt hx
  have h2 := norm_eq hy ny
  rcases Int.lt_or_le (val y) (pw x.length) with h3 | h3
  · have h4 := digits_length_le (v := (val y).toNat) (n := x.length) (by have := val_nonneg hy; omega)
    rw [← h2] at h4
    omega
  · omega
theorem val_at (l : List Int) (i : Nat) (h : i < l.length) : val l = valTo l i + pw i * (l[i]?.getD 0 + 4294967296 * val (l.drop (i + 1))) := by
  rw [val_split l i (by omega), List.drop_eq_getElem_cons h, val, List.getElem?_eq_getElem h]; rfl
theorem cmp_at {x y : List Int} (hx : Dig x) (hy : Dig y) (i : Nat) (h1 : i < x.length) (h2 : i < y.length) (hd : x.drop (i + 1) = y.drop (i + 1)) (hne : x[i]?.getD 0 ≠ y[i]?.getD 0) : cmpS (x[i]?.getD 0) (y[i]?.getD 0) = cmpS (val x) (val y) := by
  have e1 := val_at x i h1
  have e2 := val_at y i h2
  have a1 := valTo_nonneg hx i
  have a2 := valTo_lt hx i
  have b1 := valTo_nonneg hy i
  have b2 := valTo_lt hy i
  rw [hd] at e1
  generalize val (y.drop (i + 1)) = D at *
  generalize x[i]?.getD 0 = p at *
  generalize y[i]?.getD 0 = q at *
  have hp := pw_pos i
  rw [Int.mul_add] at e1 e2
  unfold cmpS
  rcases Int.lt_or_lt_of_ne hne with h | h
  · have : pw i * (p + 1) ≤ pw i * q := Int.mul_le_mul_of_nonneg_left (by omega) (by omega)
    rw [Int.mul_add] at this
    rw [if_pos h, if_pos (by omega)]
  · have : pw i * (q + 1) ≤ pw i * p := Int.mul_le_mul_of_nonneg_left (by omega) (by omega)
    rw [Int.mul_add] at this
    rw [if_neg (by omega), if_neg (by omega), if_neg (by omega), if_neg (by omega)]
end Nt
set_option maxHeartbeats 1000000 in
theorem Compare_any (A B : Option Addr) (n c m d : Nat) (a b : List Int) (w : World) (ha : SlR .u32 w A n c a) (hb : SlR .u32 w B m d b) (da : Nt.Dig a) (db : Nt.Dig b) :
    Calls Tryz.prog 154 #[.slice A n c, .slice B m d] w fun e w' => e = .returned (.int .i64 (Nt.cmpS (Nt.val a) (Nt.val b))) ∧ ∃ k, w' = w.drewN k := by
  have hx := ha.upto (m := (Nt.strip a).length) (by rw [← ha.1]; exact Nt.strip_length_le a)
  have hy := hb.upto (m := (Nt.strip b).length) (by rw [← hb.1]; exact Nt.strip_length_le b)
  rw [← Nt.strip_take] at hx hy
  have hcm : c ≤ maxLen := ha.2.2.1
  have hdm : d ≤ maxLen := hb.2.2.1
  unfold maxLen at hcm hdm
  have hxl := hx.2.1
  have hyl := hy.2.1
  have ev : Hid (Nt.cmpS (Nt.val a) (Nt.val b) = Nt.cmpS (Nt.val (Nt.strip a)) (Nt.val (Nt.strip b))) := by show _ = _; rw [Nt.strip_val, Nt.strip_val]
  have dx := Lib.hid (Nt.strip_dig da)
  have dy := Lib.hid (Nt.strip_dig db)
  have nx := Lib.hid (Nt.strip_norm a)
  have ny := Lib.hid (Nt.strip_norm b)
  go_enter Tryz.func154, Tryz.ntmps154
  go_wp2_with fail
  refine (cut_any _ _ _ _ _ ha).mono ?_
  rintro e w1 ⟨rfl, rfl⟩
  go_wp2_with fail
  refine (cut_any _ _ _ _ _ hb).mono ?_
  rintro e w1 ⟨rfl, rfl⟩
  generalize Nt.strip a = x at *
  generalize Nt.strip b = y at *
  clear ha hb da db
  by_cases hlen : x.length = y.length
  · have hb0 : ((x.length : Int) != (y.length : Int)) = false := by rw [hlen]; simp
    obtain ⟨N, hN⟩ : ∃ N, N = y.length := ⟨_, rfl⟩
    have hNx : Hid (x.length = N) := by show _ = _; omega
    have hNy : Hid (y.length = N) := by show _ = _; omega
    rw [hlen] at hx hxl hb0 ⊢
    rw [← hN] at hx hy hxl hyl hb0 ⊢
    clear hlen hN hb0
    go_wp2
    go_loopw [7] (fun v wr => ∃ k : Nat, k ≤ N ∧ v = .int .i64 ((k : Int) - 1) ∧ Hid (x.drop k = y.drop k) ∧ ∃ q, wr = w.drewN q) (fun v _ => (intOf v + 1).toNat)
    case atStart => exact ⟨N, Nat.le_refl _, rfl, by show _ = _; rw [List.drop_of_length_le (by have := hNx.out; omega), List.drop_of_length_le (by have := hNy.out; omega)], 0, rfl⟩
    case round =>
      obtain ⟨k, hk, rfl, hdr, q, rfl⟩ := hrel
      rcases k with _ | k
      · have hfin : Hid (Nt.cmpS (Nt.val a) (Nt.val b) = 0) := by
          have h1 := hdr.out
          have h2 := ev.out
          simp only [List.drop_zero] at h1
          show _ = _
          rw [h2, h1]; simp [Nt.cmpS]
        clear hdr
        go_wp2
        go_ret
        exact ⟨by rw [hfin.out]; rfl, q, rfl⟩
      · obtain ⟨b1, o1, rfl, _, hc1⟩ := hx.pos (i := k) (by omega)
        obtain ⟨b2, o2, rfl, _, hc2⟩ := hy.pos (i := k) (by omega)
        have hkl : (k : Int) < N := by omega
        by_cases heq : x[k]?.getD 0 = y[k]?.getD 0
        · have hdr' : Hid (x.drop k = y.drop k) := by
            have h1 := hdr.out
            have e1 := hNx.out
            have e2 := hNy.out
            rw [List.getElem?_eq_getElem (by omega), List.getElem?_eq_getElem (by omega)] at heq
            show _ = _
            rw [List.drop_eq_getElem_cons (by omega), List.drop_eq_getElem_cons (i := k) (l := y) (by omega), h1]
            congr 1
          rw [heq] at hc1
          clear heq hdr
          go_wp2
          go_quiet (fail)
          go_wp2
          go_roundw
          case rel => exact ⟨k, by omega, by go_num, hdr', q + nq, by first | rfl | rw [World.drewN_drewN]⟩
          case measure => simp [intOf]
        · have hfin : Hid (Nt.cmpS (x[k]?.getD 0) (y[k]?.getD 0) = Nt.cmpS (Nt.val a) (Nt.val b)) := by
            show _ = _
            rw [ev.out]
            exact Nt.cmp_at dx.out dy.out k (by have := hNx.out; omega) (by have := hNy.out; omega) hdr.out heq
          have hb0 : (x[k]?.getD 0 != y[k]?.getD 0) = true := by simpa using heq
          have hb1 : (x[k]?.getD 0 == y[k]?.getD 0) = false := by simpa using heq
          clear heq hdr
          go_wp2
          go_quiet (fail)
          go_wp2
          obtain ⟨wq, hwq⟩ : ∃ wq, wq = w.drewN (q + nq) := ⟨_, rfl⟩
          have hc1' : wq.cell? ⟨b1, o1 + k, none⟩ = some (.int .u32 (x[k]?.getD 0)) := by rw [hwq]; exact hc1
          have hc2' : wq.cell? ⟨b2, o2 + k, none⟩ = some (.int .u32 (y[k]?.getD 0)) := by rw [hwq]; exact hc2
          have Hwq := Lib.hid hwq
          rw [World.drewN_drewN, ← hwq]
          clear hwq hc1 hc2
          go_quiet ((go_at_call 189; exact Calls.quiet_of_same (cmpU32_any _ _ _)))
          go_wp2
          go_ret
          exact ⟨by rw [← hfin.out]; rfl, _, by rw [Hwq.out, World.drewN_drewN]⟩
  · have hb0 : ((x.length : Int) != (y.length : Int)) = true := by rw [bne_iff_ne]; omega
    have hfin : Hid (Nt.cmpS (x.length : Int) (y.length : Int) = Nt.cmpS (Nt.val a) (Nt.val b)) := by
      show _ = _
      rw [ev.out]
      unfold Nt.cmpS
      rcases Nat.lt_or_gt_of_ne hlen with h | h
      · have := Nt.len_lt dx.out dy.out ny.out h
        rw [if_pos (by omega), if_pos this]
      · have := Nt.len_lt dy.out dx.out nx.out h
        rw [if_neg (by omega), if_neg (by omega), if_neg (by omega), if_neg (by omega)]
    clear hlen
    go_wp2_with fail
    refine (cmpInt_any _ _ _).mono ?_
    rintro e w1 ⟨rfl, rfl⟩
    go_wp2
    go_ret
    exact ⟨by rw [← hfin.out]; rfl, 0, rfl⟩
end Go.Proofs.YtnedhbidmfoegaaGreat

/- Contracts of nat: Mul. -/
import Derived.Test.YtnedhbidmfoegaaGreatNatB
namespace Go.Proofs.YtnedhbidmfoegaaGreat
open Go.RowKit
set_option linter.unusedVariables false
namespace Nt
theorem mul_step {S T y : List Int} {i j : Nat} {c t x : Int} (hi : i + j < T.length) (h : valTo T (i + j) + c * pw (i + j) = valTo S (i + j) + x * (pw i * valTo y j)) (hT : T[i + j]?.getD 0 = S[i + j]?.getD 0) (ht : t = x * y[j]?.getD 0 + T[i + j]?.getD 0 + c) :
    valTo (T.set (i + j) (t % 4294967296)) (i + (j + 1)) + (t / 4294967296) * pw (i + (j + 1)) = valTo S (i + (j + 1)) + x * (pw i * valTo y (j + 1)) := by
  rw [← Nat.add_assoc, valTo_set T _ hi, valTo_succ, valTo_succ, pw]
  have e := Int.mul_ediv_add_emod t 4294967296
  generalize t % 4294967296 = r at *
  generalize t / 4294967296 = q at *
  rw [hT] at ht
  rw [pw_add] at *
  grind
theorem mul_bd32 {x y : Int} (hx : 0 ≤ x ∧ x < 4294967296) (hy : 0 ≤ y ∧ y < 4294967296) : 0 ≤ x * y ∧ x * y ≤ 18446744065119617025 := by
  refine ⟨Int.mul_nonneg hx.1 hy.1, ?_⟩
  have : x * y ≤ 4294967295 * 4294967295 := Int.mul_le_mul (by omega) (by omega) hy.1 (by omega)
  omega
end Nt

set_option maxHeartbeats 2000000 in
theorem Mul_any (A B : Option Addr) (n c m d : Nat) (a b : List Int) (w : World) (ha : SlR .u32 w A n c a) (hb : SlR .u32 w B m d b) (da : Nt.Dig a) (db : Nt.Dig b) (hn : n ≤ 1000000000) (hm : m ≤ 1000000000) :
    Calls Tryz.prog 155 #[.slice A n c, .slice B m d] w fun e w' => ∃ A' n' c', e = .returned (.slice A' n' c') ∧ NatF w w' A' n' c' (Nt.val a * Nt.val b).toNat ∧ Below w.heap.size w w' := by
  have lx : (Nt.strip a).length ≤ n := by rw [← ha.1]; exact Nt.strip_length_le a
  have ly : (Nt.strip b).length ≤ m := by rw [← hb.1]; exact Nt.strip_length_le b
  have hx := ha.upto (m := (Nt.strip a).length) lx
  have hy := hb.upto (m := (Nt.strip b).length) ly
  rw [← Nt.strip_take] at hx hy
  have ev : Hid (Nt.val a * Nt.val b = Nt.val (Nt.strip a) * Nt.val (Nt.strip b)) := by show _ = _; rw [Nt.strip_val, Nt.strip_val]
  have dx := Lib.hid (Nt.strip_dig da)
  have dy := Lib.hid (Nt.strip_dig db)
  go_enter Tryz.func155, Tryz.ntmps155
  go_wp2_with fail
  refine (cut_any _ _ _ _ _ ha).mono ?_
  rintro e w1 ⟨rfl, rfl⟩
  go_wp2_with fail
  refine (cut_any _ _ _ _ _ hb).mono ?_
  rintro e w1 ⟨rfl, rfl⟩
  obtain ⟨X, hX⟩ : ∃ X, X = (Nt.strip a).length := ⟨_, rfl⟩
  obtain ⟨Y, hY⟩ : ∃ Y, Y = (Nt.strip b).length := ⟨_, rfl⟩
  have HX : Hid ((Nt.strip a).length = X) := hX.symm
  have HY : Hid ((Nt.strip b).length = Y) := hY.symm
  rw [← hX] at hx lx ⊢
  rw [← hY] at hy ly ⊢
  generalize Nt.strip a = x at *
  generalize Nt.strip b = y at *
  clear ha hb da db hX hY
  by_cases hX0 : X = 0
  · subst hX0
    have hfin : Hid ((Nt.val a * Nt.val b).toNat = 0) := by
      have h1 := ev.out
      have : x = [] := List.eq_nil_of_length_eq_zero HX.out
      show _ = _
      rw [h1, this]; simp [Nt.val]
    go_wp2
    go_ret
    refine ⟨none, 0, 0, rfl, ?_, Below.refl _ _⟩
    rw [hfin.out]
    exact ⟨by rw [Nt.digits_zero]; rfl, by rw [Nt.digits_zero]; exact SlR.nil _ _ _ (Nat.zero_le _), fun h => absurd h (by omega)⟩
  by_cases hY0 : Y = 0
  · subst hY0
    have hXb : ((X : Int) == 0) = false := by rw [beq_eq_false_iff_ne]; omega
    have hfin : Hid ((Nt.val a * Nt.val b).toNat = 0) := by
      have h1 := ev.out
      have : y = [] := List.eq_nil_of_length_eq_zero HY.out
      show _ = _
      rw [h1, this]; simp [Nt.val]
    go_wp2
    go_ret
    refine ⟨none, 0, 0, rfl, ?_, Below.refl _ _⟩
    rw [hfin.out]
    exact ⟨by rw [Nt.digits_zero]; rfl, by rw [Nt.digits_zero]; exact SlR.nil _ _ _ (Nat.zero_le _), fun h => absurd h (by omega)⟩
  have hXb : ((X : Int) == 0) = false := by rw [beq_eq_false_iff_ne]; omega
  have hYb : ((Y : Int) == 0) = false := by rw [beq_eq_false_iff_ne]; omega
  clear hX0 hY0
  go_wp2_with (at_make; refine wpList_makeK _ rfl (.tmp 30) (.tmp 30) _ rfl 105 .u32 4 Tryz.underlying22 u32_info _ _ _ _ (X + Y) rfl rfl ?L ?C ?b2 ?b3 ?_)
  case L => omega
  case C => omega
  case b2 => omega
  case b3 => unfold maxLen; omega
  intro w2 hk2 hb2 hz2
  obtain ⟨g, hg⟩ : ∃ g, g = w.heap.size := ⟨_, rfl⟩
  have hgw : w.heap.size ≤ g := by omega
  rw [← hg] at hk2 ⊢
  clear hz2 hg hXb hYb
  go_wp2
  go_loopw [34] (fun iv wr => ∃ (i : Nat) (S : List Int), i ≤ X ∧ iv = .int .i64 i ∧ KBlk .u32 wr g 105 S ∧ Hid (S.length = X + Y) ∧ Hid (Nt.Dig S) ∧ Hid (Nt.valTo S (i + Y) = Nt.valTo x i * Nt.val y) ∧ Hid (∀ k, i + Y ≤ k → S[k]?.getD 0 = 0) ∧ Below w.heap.size w wr) (fun iv _ => X - (intOf iv).toNat)
  case atStart => exact ⟨0, _, by omega, rfl, hk2, by simp [Hid], Nt.Dig.repl _, by show _ = _; rw [Nt.valTo_zero, Int.zero_mul]; unfold Nt.valTo; rw [List.take_replicate, Nt.val_repl], fun k _ => by simp only [List.getElem?_replicate]; split <;> rfl, hb2⟩
  case round =>
    obtain ⟨i, S, hi, rfl, hk, hS, dS, hv, hz, hbr⟩ := hrel
    clear hk2 hb2
    by_cases hiX : i < X
    · obtain ⟨b1, o1, rfl, _, hc1⟩ := (hx.below hbr).pos hiX
      have q1 := dx.out.at i
      by_cases hx0 : x[i]?.getD 0 = 0
      · have hv' : Hid (Nt.valTo S (i + 1 + Y) = Nt.valTo x (i + 1) * Nt.val y) := by
          have h1 := hv.out
          have h2 := hz.out (i + Y) (Nat.le_refl _)
          show _ = _
          rw [show i + 1 + Y = i + Y + 1 by omega, Nt.valTo_succ, h1, h2, Nt.valTo_succ, hx0]; simp
        rw [hx0] at hc1
        clear hx0 q1 hv
        go_wp2
        go_roundw
        case rel => exact ⟨i + 1, S, by omega, by go_num, hk, hS, dS, hv', fun k hk' => hz.out k (by omega), hbr⟩
        case measure => simp [intOf]; omega
      · have hxb : (x[i]?.getD 0 == 0) = false := by rw [beq_eq_false_iff_ne]; exact hx0
        obtain ⟨xi, hxi⟩ : ∃ xi, xi = x[i]?.getD 0 := ⟨_, rfl⟩
        rw [← hxi] at hc1 q1 hxb
        have q1a := q1.1
        have q1b := q1.2
        have Hxi := Lib.hid hxi
        clear hx0 q1 hxi
        go_wp2
        clear hc1 hxb
        obtain ⟨wo, rfl⟩ : ∃ wo : World, wo = wr := ⟨_, rfl⟩
        go_loopw [10, 43] (fun cv jv wr => ∃ (j : Nat) (cy : Int) (T : List Int), j ≤ Y ∧ 0 ≤ cy ∧ cy ≤ 4294967295 ∧ cv = .int .u64 cy ∧ jv = .int .i64 j ∧ KBlk .u32 wr g 105 T ∧ Hid (T.length = X + Y) ∧ Hid (Nt.Dig T) ∧ Hid (Nt.valTo T (i + j) + cy * Nt.pw (i + j) = Nt.valTo S (i + j) + xi * (Nt.pw i * Nt.valTo y j)) ∧ Hid (∀ k, i + j ≤ k → T[k]?.getD 0 = S[k]?.getD 0) ∧ Below w.heap.size w wr) (fun _ jv _ => Y - (intOf jv).toNat)
        case atStart => exact ⟨0, 0, S, by omega, by omega, by omega, rfl, rfl, hk, hS, dS, by simp [Hid, Nt.valTo_zero], fun k _ => rfl, hbr⟩
        case round =>
          obtain ⟨j, cy, T, hj, c0, c1, rfl, rfl, hk, hT, dT, hw, hsame, hbr⟩ := hrel
          by_cases hjY : j < Y
          · obtain ⟨b2, o2, rfl, _, hc2⟩ := (hy.below hbr).pos hjY
            have q2 := dy.out.at j
            have q3 := dT.out.at (i + j)
            have hc3 := hk.cell (i := i + j) (by have := hT.out; omega)
            have hf3 := hk.frozen (i + j)
            have q4 := Nt.mul_bd32 ⟨q1a, q1b⟩ q2
            have q4a := q4.1
            have q4b := q4.2
            have q3a := q3.1
            have q3b := q3.2
            have q2a := q2.1
            have q2b := q2.2
            have Hst := Lib.hid (Nt.mul_step (t := xi * y[j]?.getD 0 + T[i + j]?.getD 0 + cy) (by have := hT.out; omega) hw.out (hsame.out _ (Nat.le_refl _)) rfl)
            clear q2 q3 q4
            go_wp2
            go_roundw
            case rel => exact ⟨j + 1, _, _, by omega, by omega, by omega, rfl, by go_num, hk.set (i + j) _, by have := hT.out; show _ = _; simpa using this, dT.out.set (i + j) (by omega), Hst.out, fun k hk' => by rw [List.getElem?_set_ne (by omega)]; exact hsame.out k (by omega), hbr.setCell (p := ⟨g, i + j, none⟩) hgw _⟩
            case measure => simp [intOf]; omega
          · obtain rfl : j = Y := by omega
            have hc3 := hk.cell (i := i + j) (by have := hT.out; omega)
            have hf3 := hk.frozen (i + j)
            have hv' : Hid (Nt.valTo (T.set (i + j) cy) (i + 1 + j) = Nt.valTo x (i + 1) * Nt.val y) := by
              have h1 := hw.out
              have h2 := hv.out
              have h3 := Hxi.out
              show _ = _
              rw [show i + 1 + j = i + j + 1 by omega, Nt.valTo_set T cy (by have := hT.out; omega), Nt.valTo_succ, ← h3]
              rw [Nt.valTo_all y (by have := HY.out; omega)] at h1
              grind
            have hz' : Hid (∀ k, i + 1 + j ≤ k → (T.set (i + j) cy)[k]?.getD 0 = 0) := fun k hk' => by
              rw [List.getElem?_set_ne (by omega), hsame.out k (by omega)]
              exact hz.out k (by omega)
            clear hv hz hw hsame
            go_wp2
            go_roundw
            case rel => exact ⟨i + 1, _, by omega, by go_num, hk.set (i + j) _, by have := hT.out; show _ = _; simpa using this, dT.out.set (i + j) (by omega), hv', hz', hbr.setCell (p := ⟨g, i + j, none⟩) hgw _⟩
            case measure => simp [intOf]; omega
    · obtain rfl : i = X := by omega
      have hval : Nt.val S = Nt.val a * Nt.val b := by
        have h1 := hv.out
        rw [← Nt.valTo_all S (n := i + Y) (by have := hS.out; omega), h1, ev.out, Nt.valTo_all x (by have := HX.out; omega)]
      have hsl := hk.slr_all (n := i + Y) (c := i + Y) hS.out (by omega) (by unfold maxLen; omega)
      have hfr := strip_fresh (w0 := w) hk hS.out (by unfold maxLen; omega) dS.out hgw
      rw [hval] at hfr
      have HF := Lib.hid hfr
      clear hval hfr
      go_wp2_with fail
      refine (cut_any _ _ _ _ _ hsl).mono ?_
      rintro e w1 ⟨rfl, rfl⟩
      go_wp2
      go_ret
      exact ⟨_, _, _, rfl, HF.out, hbr⟩
end Go.Proofs.YtnedhbidmfoegaaGreat

/- Contracts of nat: Sub, slices.Clone, Trim. -/
import Derived.Test.YtnedhbidmfoegaaNatC
import Derived.WalkSpells
import Derived.Lib.SliceRun
namespace Go.Proofs.Ytnedhbidmfoegaa
open Go.RowKit
set_option linter.unusedVariables false

namespace Nt
theorem sub_low {x bo y : Int} (hx : 0 ≤ x) (hx' : x < 4294967296) (hb : 0 ≤ bo) (hb' : bo ≤ 1) (hy : 0 ≤ y) (hy' : y < 4294967296) :
    IntKind.u64.wrap (IntKind.u64.wrap (x - bo) - y) % 4294967296 = (x - bo - y) % 4294967296 ∧ IntKind.u64.wrap (IntKind.u64.wrap (x - bo) - y) / 9223372036854775808 = (if x - bo - y < 0 then 1 else 0) := by
  rw [IntKind.wrap_u64, IntKind.wrap_u64]
  split <;> omega
theorem sub_low1 {x bo : Int} (hx : 0 ≤ x) (hx' : x < 4294967296) (hb : 0 ≤ bo) (hb' : bo ≤ 1) :
    IntKind.u64.wrap (x - bo) % 4294967296 = (x - bo) % 4294967296 ∧ IntKind.u64.wrap (x - bo) / 9223372036854775808 = (if x - bo < 0 then 1 else 0) := by
  rw [IntKind.wrap_u64]
  split <;> omega
theorem sub_step {S x y : List Int} {i : Nat} {bo t : Int} (hi : i < S.length) (h : valTo S i + valTo y i = valTo x i + bo * pw i) (ht : t = x[i]?.getD 0 - bo - y[i]?.getD 0) (h0 : -4294967296 ≤ t) (h1 : t < 4294967296) :
    valTo (S.set i (t % 4294967296)) (i + 1) + valTo y (i + 1) = valTo x (i + 1) + (if t < 0 then 1 else 0) * pw (i + 1) := by
  rw [valTo_set S _ hi, valTo_succ, valTo_succ, pw]
  have e : t % 4294967296 = t + 4294967296 * (if t < 0 then 1 else 0) := by split <;> omega
  rw [e]
  generalize (if t < 0 then (1 : Int) else 0) = q at *
  grind
end Nt
/-- slices.Clone of digits: a list of its own. -/
theorem CloneU_any (A : Option Addr) (n c : Nat) (l : List Int) (w : World) (h : SlR .u32 w A n c l) (hn : n ≤ 1000000000) :
    Calls Try.prog 118 #[.slice A n c] w fun e w' => ∃ A' c', e = .returned (.slice A' n c') ∧ SlR .u32 w' A' n c' l ∧ (0 < n → ∃ a, A' = some a ∧ w.heap.size ≤ a.block ∧ TyB w' a.block 82) ∧ Below w.heap.size w w' := by
  rcases A with _ | ad
  · have h0 : n = 0 := by
      rcases Nat.eq_zero_or_pos n with h0 | h0
      · exact h0
      · obtain ⟨b, o, he, _⟩ := h.2.2.2 h0; cases he
    subst h0
    have hl : l = [] := List.eq_nil_of_length_eq_zero h.1
    have Hl := Lib.hid hl
    have ke := fun (w : World) => Lib.run_eql_slice_nil (P := Try.prog) w 22 82 none 0 c 0 0 Try.underlying22
    clear hl
    go_enter Try.func118, Try.ntmps118
    go_wp2
    go_ret
    exact ⟨none, 0, rfl, by rw [Hl.out]; exact SlR.nil _ _ _ (Nat.zero_le _), fun h => absurd h (by omega), Below.refl _ _⟩
  · have ke := fun (w : World) => Lib.run_eql_slice_nil (P := Try.prog) w 22 82 (some ad) n c 0 0 Try.underlying22
    go_enter Try.func118, Try.ntmps118
    go_wp2_with (at_builtin; refine wpList_appendK _ rfl (.tmp 5) (.tmp 6) _ rfl 82 .u32 4 Try.underlying22 u32_info w.heap.size (some ⟨w.heap.size, 0, none⟩) 0 0 [] rfl ?own (some ad) n c l rfl ?slr ?h63 ?hby ?hbase ?_)
    case own => exact (KBlk.new w 82 []).own (Nat.le_refl _) rfl (Nat.zero_le _)
    case slr => exact h.alloc _
    case h63 => unfold maxLen; omega
    case hby => omega
    case hbase => simp
    intro A2 c2 w3 ho3 hb3
    go_wp2
    go_ret
    exact ⟨A2, c2, rfl, ho3.slr, fun hp => ho3.ty (by omega), ((Below.refl _ _).alloc (Nat.le_refl _) _).trans hb3⟩

theorem Trim_any (A : Option Addr) (n c : Nat) (a : List Int) (w : World) (ha : SlR .u32 w A n c a) (da : Nt.Dig a) (hn : n ≤ 1000000000) :
    Calls Try.prog 117 #[.slice A n c] w fun e w' => ∃ A' n' c', e = .returned (.slice A' n' c') ∧ NatF w w' A' n' c' (Nt.val a).toNat ∧ Below w.heap.size w w' := by
  have lx : (Nt.strip a).length ≤ n := by rw [← ha.1]; exact Nt.strip_length_le a
  have hx := ha.upto (m := (Nt.strip a).length) lx
  rw [← Nt.strip_take] at hx
  have He := Lib.hid (Nt.strip_eq da)
  go_enter Try.func117, Try.ntmps117
  go_wp2_with fail
  refine (cut_any _ _ _ _ _ ha).mono ?_
  rintro e w1 ⟨rfl, rfl⟩
  go_wp2_with fail
  refine (CloneU_any _ _ _ _ _ hx (by omega)).mono ?_
  rintro e w1 ⟨A', c', rfl, hs, hf, hb⟩
  go_wp2
  go_ret
  exact ⟨A', _, c', rfl, ⟨by rw [He.out], by rw [← He.out]; exact hs, hf⟩, hb⟩
set_option maxHeartbeats 2000000 in
theorem Sub_any (A B : Option Addr) (n c m d : Nat) (a b : List Int) (w : World) (ha : SlR .u32 w A n c a) (hb : SlR .u32 w B m d b) (da : Nt.Dig a) (db : Nt.Dig b) (hn : n ≤ 1000000000) (hm : m ≤ 1000000000) :
    Calls Try.prog 109 #[.slice A n c, .slice B m d] w fun e w' => ∃ A' n' c', e = .returned (.slice A' n' c') ∧ NatF w w' A' n' c' (Nt.val a - Nt.val b).toNat ∧ Below w.heap.size w w' := by
  have lx : (Nt.strip a).length ≤ n := by rw [← ha.1]; exact Nt.strip_length_le a
  have ly : (Nt.strip b).length ≤ m := by rw [← hb.1]; exact Nt.strip_length_le b
  have hx := ha.upto (m := (Nt.strip a).length) lx
  have hy := hb.upto (m := (Nt.strip b).length) ly
  rw [← Nt.strip_take] at hx hy
  by_cases hle : Nt.val a ≤ Nt.val b
  · have hcmp : Nt.cmpS (Nt.val a) (Nt.val b) ≤ 0 := by unfold Nt.cmpS; split <;> (try split) <;> omega
    have hfin : Hid ((Nt.val a - Nt.val b).toNat = 0) := by show _ = _; omega
    clear hle
    go_enter Try.func109, Try.ntmps109
    go_wp2_with fail
    refine (Compare_any _ _ _ _ _ _ _ _ _ ha hb da db).mono ?_
    rintro e w1 ⟨rfl, q, rfl⟩
    go_wp2
    go_ret
    refine ⟨none, 0, 0, rfl, ?_, ⟨rfl, rfl, rfl, Nat.le_refl _, fun _ _ => rfl⟩⟩
    rw [hfin.out]
    exact ⟨by rw [Nt.digits_zero]; rfl, by rw [Nt.digits_zero]; exact SlR.nil _ _ _ (Nat.zero_le _), fun h => absurd h (by omega)⟩
  · have hcmp : Nt.cmpS (Nt.val a) (Nt.val b) = 1 := by unfold Nt.cmpS; rw [if_neg (by omega), if_neg (by omega)]
    have Hcmp := Lib.hid hcmp
    have Hle : Hid (Nt.val b < Nt.val a) := by show _ < _; omega
    have ev : Hid (Nt.val a = Nt.val (Nt.strip a) ∧ Nt.val b = Nt.val (Nt.strip b)) := ⟨(Nt.strip_val a).symm, (Nt.strip_val b).symm⟩
    have dx := Lib.hid (Nt.strip_dig da)
    have dy := Lib.hid (Nt.strip_dig db)
    clear hcmp hle
    go_enter Try.func109, Try.ntmps109
    go_wp2_with fail
    refine (Compare_any _ _ _ _ _ _ _ _ _ ha hb da db).mono ?_
    rintro e w1 ⟨rfl, q, rfl⟩
    rw [Hcmp.out]
    go_wp2_with fail
    refine (cut_any _ _ _ _ _ (ha.drewN q)).mono ?_
    rintro e w1 ⟨rfl, rfl⟩
    go_wp2_with fail
    refine (cut_any _ _ _ _ _ (hb.drewN q)).mono ?_
    rintro e w1 ⟨rfl, rfl⟩
    obtain ⟨X, hX⟩ : ∃ X, X = (Nt.strip a).length := ⟨_, rfl⟩
    obtain ⟨Y, hY⟩ : ∃ Y, Y = (Nt.strip b).length := ⟨_, rfl⟩
    have HX : Hid ((Nt.strip a).length = X) := hX.symm
    have HY : Hid ((Nt.strip b).length = Y) := hY.symm
    have hYX : Hid (Y ≤ X) := by
      show _ ≤ _
      rcases Nat.lt_or_ge X Y with h | h
      · have := Nt.len_lt dx.out dy.out (Nt.strip_norm b) (by omega)
        have h1 := ev.out
        have h2 := Hle.out
        omega
      · exact h
    rw [← hX] at hx lx ⊢
    rw [← hY] at hy ly ⊢
    generalize Nt.strip a = x at *
    generalize Nt.strip b = y at *
    clear ha hb da db hX hY
    go_wp2_with (at_make; refine wpList_makeK _ rfl (.tmp 21) (.tmp 21) _ rfl 82 .u32 4 Try.underlying22 u32_info _ _ _ _ X rfl rfl ?L ?C ?b2 ?b3 ?_)
    case L => rfl
    case C => rfl
    case b2 => omega
    case b3 => unfold maxLen; omega
    intro w2 hk2 hb2' hz2
    have hb2 : Below w.heap.size w w2 := ⟨hb2'.os, hb2'.tape, hb2'.output, hb2'.size, hb2'.block⟩
    obtain ⟨g, hg⟩ : ∃ g, g = w.heap.size := ⟨_, rfl⟩
    have hgw : w.heap.size ≤ g := by omega
    rw [← hg] at hk2 ⊢
    clear hz2 hg hb2'
    go_wp2
    go_loopw [8, 25] (fun cv iv wr => ∃ (i : Nat) (bo : Int) (S : List Int), i ≤ X ∧ 0 ≤ bo ∧ bo ≤ 1 ∧ cv = .int .u64 bo ∧ iv = .int .i64 i ∧ KBlk .u32 wr g 82 S ∧ Hid (S.length = X) ∧ Hid (Nt.Dig S) ∧ Hid (Nt.valTo S i + Nt.valTo y i = Nt.valTo x i + bo * Nt.pw i) ∧ Below w.heap.size w wr) (fun _ iv _ => X - (intOf iv).toNat)
    case atStart => exact ⟨0, 0, _, by omega, by omega, by omega, rfl, rfl, hk2, by simp [Hid], Nt.Dig.repl _, by simp [Hid, Nt.valTo_zero], hb2⟩
    case round =>
      obtain ⟨i, bo, S, hi, c0, c1, rfl, rfl, hk, hS, dS, hv, hbr⟩ := hrel
      clear hk2 hb2
      by_cases hiX : i < X
      · obtain ⟨b1, o1, rfl, _, hc1⟩ := (hx.below hbr).pos hiX
        have q1 := dx.out.at i
        have q1a := q1.1
        have q1b := q1.2
        have hc3 := hk.cell (i := i) (by have := hS.out; omega)
        have hf3 := hk.frozen i
        clear q1
        by_cases hiY : i < Y
        · obtain ⟨b2, o2, rfl, _, hc2⟩ := (hy.below hbr).pos hiY
          have q2 := dy.out.at i
          have q2a := q2.1
          have q2b := q2.2
          clear q2
          have hiY' : (i : Int) < Y := by omega
          have Hlo := Lib.hid (Nt.sub_low q1a q1b c0 c1 q2a q2b)
          have Hst := Lib.hid (Nt.sub_step (t := x[i]?.getD 0 - bo - y[i]?.getD 0) (by have := hS.out; omega) hv.out rfl (by omega) (by omega))
          go_wp2
          go_roundw
          case rel =>
            have h1 := Hlo.out.1
            have h2 := Hlo.out.2
            rw [h1, h2]
            exact ⟨i + 1, _, _, by omega, by split <;> omega, by split <;> omega, rfl, by go_num, hk.set i _, by have := hS.out; show _ = _; simpa using this, dS.out.set i (by omega), Hst.out, hbr.setCell (p := ⟨g, i, none⟩) hgw _⟩
          case measure => simp [intOf]; omega
        · have hiY' : ¬ (i : Int) < Y := by omega
          have e0 : y[i]?.getD 0 = 0 := by rw [List.getElem?_eq_none (by have := HY.out; omega)]; rfl
          have Hlo := Lib.hid (Nt.sub_low1 q1a q1b c0 c1)
          have Hst := Lib.hid (Nt.sub_step (t := x[i]?.getD 0 - bo) (by have := hS.out; omega) hv.out (by rw [e0]; omega) (by omega) (by omega))
          clear e0
          go_wp2
          go_roundw
          case rel =>
            have h1 := Hlo.out.1
            have h2 := Hlo.out.2
            rw [h1, h2]
            exact ⟨i + 1, _, _, by omega, by split <;> omega, by split <;> omega, rfl, by go_num, hk.set i _, by have := hS.out; show _ = _; simpa using this, dS.out.set i (by omega), Hst.out, hbr.setCell (p := ⟨g, i, none⟩) hgw _⟩
          case measure => simp [intOf]; omega
      · obtain rfl : i = X := by omega
        have hval : Nt.val S = Nt.val a - Nt.val b := by
          have h1 := hv.out
          have h2 := ev.out
          have h3 := Hle.out
          have h4 := hYX.out
          rw [Nt.valTo_all S (by have := hS.out; omega), Nt.valTo_all x (by have := HX.out; omega), Nt.valTo_all y (by have := HY.out; omega)] at h1
          have h5 := Nt.val_lt dS.out
          have h6 := Nt.val_nonneg dS.out
          rw [hS.out] at h5
          have h7 : bo = 0 := by
            rcases (show bo = 0 ∨ bo = 1 by omega) with h | h
            · exact h
            · rw [h] at h1; omega
          rw [h7] at h1
          omega
        have hsl := hk.slr_all (n := i) (c := i) hS.out (by omega) (by unfold maxLen; omega)
        have hfr := strip_fresh (w0 := w) hk hS.out (by unfold maxLen; omega) dS.out hgw
        rw [hval] at hfr
        have HF := Lib.hid hfr
        clear hval hfr
        go_wp2_with fail
        refine (cut_any _ _ _ _ _ hsl).mono ?_
        rintro e w1 ⟨rfl, rfl⟩
        go_wp2
        go_ret
        exact ⟨_, _, _, rfl, HF.out, hbr⟩
end Go.Proofs.Ytnedhbidmfoegaa

/- The reference's DivMod: the short ways. -/
import Derived.Test.YtnedhbidmfoegaaRfF
namespace Go.Proofs.Ytnedhbidmfoegaa
open Go.RowKit
set_option linter.unusedVariables false
set_option maxRecDepth 1000000 in
set_option maxHeartbeats 4000000 in
theorem rDivMod_zero (A B : Option Addr) (n c m d : Nat) (a b : List Int) (w : World) (ha : SlR .u32 w A n c a) (hb : SlR .u32 w B m d b) (da : Nt.Dig a) (db : Nt.Dig b) (hn : n ≤ 1000000000) (hm : m ≤ 1000000000) (hz : Nt.val b = 0) :
    Calls Try.prog 122 #[.slice A n c, .slice B m d] w fun e w' => e = .returned (.tuple #[.slice none 0 0, .slice none 0 0, .int .i64 3]) ∧ Below w.heap.size w w' := by
  have Hz := Lib.hid hz
  clear hz
  go_enter Try.func122, Try.ntmps122
  go_wp2_with fail
  refine (rTrim_any _ _ _ _ _ ha da (by omega)).mono ?_
  rintro e w1 ⟨A1, N, c1, rfl, f1, hb1⟩
  go_wp2_with fail
  refine (rTrim_any _ _ _ _ _ (hb.below hb1) db (by omega)).mono ?_
  rintro e w2 ⟨A2, M, c2, rfl, f2, hb2⟩
  obtain rfl : M = 0 := by have := f2.1; rw [Hz.out] at this; simpa [Nt.digits_zero] using this
  have hB : Below w.heap.size w w2 := hb1.trans (hb2.mono hb1.size)
  clear f1 f2 hb1 hb2
  go_wp2
  go_ret3
  exact ⟨rfl, hB⟩
set_option maxRecDepth 1000000 in
set_option maxHeartbeats 4000000 in
theorem rDivMod_one (A B : Option Addr) (n c m d : Nat) (a b : List Int) (w : World) (ha : SlR .u32 w A n c a) (hb : SlR .u32 w B m d b) (da : Nt.Dig a) (db : Nt.Dig b) (hn : n ≤ 1000000000) (hm : m ≤ 1000000000) (hz : 0 < Nt.val b) (hz1 : Nt.val b < 4294967296) :
    Calls Try.prog 122 #[.slice A n c, .slice B m d] w fun e w' => DivMF w w' e (Nt.val a) (Nt.val b) := by
  have lx : Hid ((Nt.digits (Nt.val a).toNat).length ≤ n) := by rw [← Nt.strip_eq da, ← ha.1]; exact Nt.strip_length_le a
  have a0 := Nt.val_nonneg da
  go_enter Try.func122, Try.ntmps122
  go_wp2_with fail
  refine (rTrim_any _ _ _ _ _ ha da (by omega)).mono ?_
  rintro e w1 ⟨A1, N, c1, rfl, f1, hb1⟩
  go_wp2_with fail
  refine (rTrim_any _ _ _ _ _ (hb.below hb1) db (by omega)).mono ?_
  rintro e w2 ⟨A2, M, c2, rfl, f2, hb2⟩
  have hdy : Nt.digits (Nt.val b).toNat = [Nt.val b] := by
    rw [Nt.digits, if_neg (by omega), Nt.digits, if_pos (by omega)]
    congr 1
    omega
  obtain rfl : M = 1 := by have := f2.1; rw [hdy] at this; simpa using this
  have hy := f2.nat.2.1
  have hx := f1.nat.2.1.below hb2
  rw [hdy] at hy
  obtain ⟨g, o, rfl, hg, hc⟩ := hy.pos (i := 0) (by omega)
  simp only [List.getElem?_cons_zero, Option.getD_some, Nat.add_zero] at hc
  have hN : N ≤ 1000000000 := by have := f1.1; have := lx.out; omega
  have hB : Hid (Below w.heap.size w w2) := hb1.trans (hb2.mono hb1.size)
  obtain ⟨y, hyy⟩ : ∃ y, y = Nt.val b := ⟨_, rfl⟩
  have Hyy := Lib.hid hyy
  rw [← hyy] at hc hz hz1
  clear f1 f2 hb1 hb2 ha hb hy hdy hyy
  go_wp2_with fail
  refine (rsmall_any _ _ _ _ y _ hx (Nt.digits_dig _) hz hz1 hN).mono ?_
  rintro e w3 ⟨A3, n3, c3, rfl, f3, hb3⟩
  rw [Nt.digits_val, Int.toNat_of_nonneg a0] at f3
  rw [Nt.digits_val, Int.toNat_of_nonneg a0]
  have F3 := Lib.hid f3
  have r0 : 0 ≤ Nt.val a % y := Int.emod_nonneg _ (by omega)
  have r1 : Nt.val a % y < 4294967296 := by have := Int.emod_lt_of_pos (Nt.val a) hz; omega
  have Hb3 := Lib.hid hb3
  clear f3 hb3 hx hc
  obtain ⟨r, hr⟩ : ∃ r, r = Nt.val a % y := ⟨_, rfl⟩
  have Hr := Lib.hid hr
  rw [← hr] at r0 r1 ⊢
  clear hr
  have hnew : Hid (SlR .u32 (w3.alloc (.cells #[.int .u32 r] 82)) (some ⟨w3.heap.size, 0, none⟩) 1 1 [r]) := (KBlk.new w3 82 [r]).slr_all rfl (Nat.le_refl _) (by decide)
  go_wp2_with fail
  refine (rTrim_any _ _ _ _ _ hnew.out (Nt.Dig.cons ⟨r0, r1⟩ Nt.Dig.nil) (by omega)).mono ?_
  rintro e w4 ⟨A4, n4, c4, rfl, f4, hb4⟩
  have F4 := Lib.hid f4
  have Hb4 := Lib.hid hb4
  clear f4 hb4
  go_wp2
  go_ret3
  have hB3 : Below w.heap.size w w3 := hB.out.trans (Hb3.out.mono hB.out.size)
  have hBa := hB3.alloc hB3.size (.cells #[.int .u32 r] 82)
  have f4 := F4.out.nat
  have e4 : Nt.val [r] = Nt.val a % Nt.val b := by rw [← Hyy.out, ← Hr.out]; simp [Nt.val]
  rw [e4] at f4
  have f3 := F3.out
  rw [Hyy.out] at f3
  refine ⟨A3, n3, c3, A4, n4, c4, rfl, (f3.mono hB.out.size).below ?_, f4.mono hBa.size, hBa.trans (Hb4.out.mono hBa.size)⟩
  exact ((Below.refl _ _).alloc (Nat.le_refl _) _).trans (Hb4.out.mono (by simp))
set_option maxRecDepth 1000000 in
set_option maxHeartbeats 4000000 in
theorem rDivMod_lt (A B : Option Addr) (n c m d : Nat) (a b : List Int) (w : World) (ha : SlR .u32 w A n c a) (hb : SlR .u32 w B m d b) (da : Nt.Dig a) (db : Nt.Dig b) (hn : n ≤ 1000000000) (hm : m ≤ 1000000000) (hz : 4294967296 ≤ Nt.val b) (hlt : Nt.val a < Nt.val b) :
    Calls Try.prog 122 #[.slice A n c, .slice B m d] w fun e w' => DivMF w w' e (Nt.val a) (Nt.val b) := by
  have lx : Hid ((Nt.digits (Nt.val a).toNat).length ≤ n) := by rw [← Nt.strip_eq da, ← ha.1]; exact Nt.strip_length_le a
  have ly : Hid ((Nt.digits (Nt.val b).toNat).length ≤ m) := by rw [← Nt.strip_eq db, ← hb.1]; exact Nt.strip_length_le b
  have a0 := Nt.val_nonneg da
  have hcmp : Nt.cmpS (Nt.val a) (Nt.val b) = -1 := by unfold Nt.cmpS; rw [if_pos hlt]
  have Hc := Lib.hid hcmp
  have Hlt := Lib.hid hlt
  clear hcmp hlt
  go_enter Try.func122, Try.ntmps122
  go_wp2_with fail
  refine (rTrim_any _ _ _ _ _ ha da (by omega)).mono ?_
  rintro e w1 ⟨A1, N, c1, rfl, f1, hb1⟩
  go_wp2_with fail
  refine (rTrim_any _ _ _ _ _ (hb.below hb1) db (by omega)).mono ?_
  rintro e w2 ⟨A2, M, c2, rfl, f2, hb2⟩
  have hM2 : 1 < M := by
    have := Nt.digits_length_gt (v := (Nt.val b).toNat) (n := 1) (by simp [Nt.pw]; omega)
    rw [f2.1]; exact this
  have hN : N ≤ 1000000000 := by have := f1.1; have := lx.out; omega
  have hM : M ≤ 1000000000 := by have := f2.1; have := ly.out; omega
  have F1 := Lib.hid f1
  have hy := f2.nat.2.1
  have hx := f1.nat.2.1.below hb2
  have h0 : ((M : Int) == 0) = false := by rw [beq_eq_false_iff_ne]; omega
  have h1 : ((M : Int) == 1) = false := by rw [beq_eq_false_iff_ne]; omega
  have Hb1 := Lib.hid hb1
  have Hb2 := Lib.hid hb2
  clear f1 f2 ha hb hb1 hb2
  go_wp2_with fail
  refine (rCompare_any _ _ _ _ _ _ _ _ _ hx hy (Nt.digits_dig _) (Nt.digits_dig _) (by omega) (by omega)).mono ?_
  rintro e w3 ⟨rfl, hb3⟩
  rw [Nt.digits_val, Nt.digits_val, Int.toNat_of_nonneg a0, Int.toNat_of_nonneg (by omega), Hc.out]
  have Hb3 := Lib.hid hb3
  clear hb3 hx hy
  go_wp2
  go_ret3
  have hB2 : Below w.heap.size w w2 := Hb1.out.trans (Hb2.out.mono Hb1.out.size)
  have e1 : Nt.val a / Nt.val b = 0 := Int.ediv_eq_zero_of_lt a0 Hlt.out
  have e2 : Nt.val a % Nt.val b = Nt.val a := Int.emod_eq_of_lt a0 Hlt.out
  refine ⟨none, 0, 0, A1, N, c1, rfl, ?_, ?_, hB2.trans (Hb3.out.mono hB2.size)⟩
  · rw [e1]
    exact ⟨by simp [Nt.digits_zero], by simp [Nt.digits_zero]; exact SlR.nil _ _ _ (Nat.zero_le _), fun h => absurd h (by omega)⟩
  · rw [e2]
    exact (F1.out.nat.below Hb2.out).below Hb3.out
end Go.Proofs.Ytnedhbidmfoegaa

/- Contracts: Root, known. -/
import Derived.Test.YtdgigbehdmhflaaCycD
namespace Go.Proofs.Ytdgigbehdmhflaa
open Go.RowKit
set_option linter.unusedVariables false

def zeros : List Int := List.replicate 64 0
theorem zeros_length : zeros.length = 64 := by simp [zeros]
theorem sum_size : (Try.prog.info? 46).map (·.size) = some 64 := by kernel_rfl
/-- A whole array of 64 ints, loaded. -/
theorem wpList_load_sum {ops : Array Oper} {rest : List Oper} {o : Oper} {a : Act} {w : World} {Q : Exit → Act → World → Prop} (hgd : o.guard = none) (x : Operand) (ho : o.op = .load 46 x)
    (g : Nat) (hx : a.eval x = .pointer (some ⟨g, 0, none⟩)) (t : TypeId) (l : List Int) (hk : KBlk .i64 w g t l) (hl : l.length = 64)
    (h : wpList Try.prog ops Q rest (a.put o.dst (arr l)) w) : wpList Try.prog ops Q (o :: rest) a w :=
  wpList_load_row hgd _ x ho g hx t _ (0, 0) _ hk sum_under rfl (by rw [sum_size]; simp [hl]) h

theorem run_alloc_sum (w : World) : (Instr.alloc 46 true (.tuple #[])).run Try.prog w = .ok (.pointer (some ⟨w.heap.size, 0, none⟩)) (w.alloc (.cells (zeros.map (Value.int .i64)).toArray 46)) := by kernel_rfl
/-- A new variable of 64 zeros. -/
theorem wpList_alloc_sum {ops : Array Oper} {rest : List Oper} {o : Oper} {a : Act} {w : World} {Q : Exit → Act → World → Prop} (hgd : o.guard = none) (ho : o.op = .alloc 46)
    (h : ∀ w', KBlk .i64 w' w.heap.size 46 zeros → Below w.heap.size w w' → w'.heap.size = w.heap.size + 1 → wpList Try.prog ops Q rest (a.put o.dst (.pointer (some ⟨w.heap.size, 0, none⟩))) w') : wpList Try.prog ops Q (o :: rest) a w := by
  refine wpList_plain hgd fun K hK => ?_
  unfold Oper.wp execOp
  simp only [ho, Sem.run_bind, Sem.run_pure, Result.andThen_ok, run_alloc_sum]
  exact hK _ _ (h _ (KBlk.new w _ zeros) ((Below.refl _ _).alloc (Nat.le_refl _) _) (by simp))

set_option maxHeartbeats 1000000 in
theorem Root_yes (k z : Int) (w : World) (hk1 : -9223372036854775808 ≤ k) (hk2 : k ≤ 9223372036854775807) (h1 : 1 ≤ z) (h2 : z ≤ 64) :
    Calls Try.prog 19 #[.int .i64 k, .int .i64 z] w fun e w' => ∃ A c, e = .returned (.tuple #[.slice A (Cyc.deg z.toNat) c, .int .i64 0]) ∧ OwnK .i64 w' w.heap.size 3 A (Cyc.deg z.toNat) c (Cyc.normalW (zeros.set (k % z).toNat 1) z.toNat) ∧ Below w.heap.size w w' := by
  have hr1 := Int.emod_nonneg k (show z ≠ 0 by omega)
  have hr2 := Int.emod_lt_of_pos k (show 0 < z by omega)
  obtain ⟨r, hr⟩ := Int.eq_ofNat_of_zero_le hr1
  have Hr := Lib.hid hr
  rw [hr] at hr1 hr2 ⊢
  clear hr
  rw [Int.toNat_natCast]
  go_enter Try.func19, Try.ntmps19
  go_wp2_with fail
  refine (permitted_yes z _ h1 h2).mono ?_
  rintro e w1 ⟨rfl, rfl⟩
  go_wp2_with (with_reducible refine wpList_alloc_sum rfl rfl ?_)
  intro w0 hk0 hb0 hz0
  go_wp2_with fail
  refine (residue_any k z _ hk1 hk2 h1 h2).mono ?_
  rintro e w1 ⟨rfl, rfl⟩
  rw [Hr.out]
  have hc0 := hk0.cell (i := r) (by rw [zeros_length]; omega)
  have hf0 := hk0.frozen r
  have hs0 := hk0.set r 1
  have hb1 := hb0.setCell (p := ⟨w.heap.size, r, none⟩) (Nat.le_refl _) (.int .i64 1)
  go_wp2_with (with_reducible refine wpList_load_sum rfl (.tmp 6) rfl w.heap.size rfl _ _ hs0 (by simp [zeros_length]) ?_)
  refine (normal_any _ z _ (by simp [zeros_length]) h1 h2).mono ?_
  rintro e w1 ⟨A, c, rfl, ho, hb⟩
  go_wp2
  go_ret2
  have hbz := hb0.setCell (p := ⟨w.heap.size, r, none⟩) (Nat.le_refl _) (.int .i64 1)
  exact ⟨A, c, rfl, ho.mono hbz.size, hbz.trans (hb.mono hbz.size)⟩

theorem Root_no (k z : Int) (w : World) (h : z < 1 ∨ 64 < z) :
    Calls Try.prog 19 #[.int .i64 k, .int .i64 z] w fun e w' => e = .returned (.tuple #[.slice none 0 0, .int .i64 1]) ∧ w = w' := by
  go_enter Try.func19, Try.ntmps19
  go_wp2_with fail
  refine (permitted_no z _ h).mono ?_
  rintro e w1 ⟨rfl, rfl⟩
  go_wp2
  go_ret2
  exact ⟨rfl, rfl⟩

theorem known_T6 : Cyc.T 6 = [1, -1, 1] := by decide +kernel
theorem known_R : Cyc.normalW (zeros.set 3 1) 4 = [0, -1] := by decide +kernel
theorem known_d : Cyc.deg 4 = 2 := by decide +kernel

set_option maxHeartbeats 1000000 in
theorem known_true (w : World) : Calls Try.prog 11 #[] w fun e w' => e = .returned (.bool true) ∧ Below w.heap.size w w' := by
  go_enter Try.func11, Try.ntmps11
  go_wp2_with fail
  refine (Phi_yes 6 _ (by omega) (by omega)).mono ?_
  rintro e w1 ⟨A1, c1, rfl, ho1, hb1⟩
  rw [show (6 : Int).toNat = 6 from rfl, known_T6] at ho1 ⊢
  go_wp2_with fail
  refine (Root_yes (-1) 4 _ (by omega) (by omega) (by omega) (by omega)).mono ?_
  rintro e w2 ⟨A2, c2, rfl, ho2, hb2⟩
  rw [show (4 : Int).toNat = 4 from rfl, show ((-1 : Int) % 4).toNat = 3 from rfl, known_R, known_d] at ho2
  rw [show (4 : Int).toNat = 4 from rfl, known_d]
  have hsa : SlR .i64 (w2.alloc (Obj.cells #[Value.int IntKind.i64 1, Value.int IntKind.i64 (-1), Value.int IntKind.i64 1] 3)) A1 3 c1 [1, -1, 1] := (ho1.slr.below hb2).alloc _
  have hsb : SlR .i64 (w2.alloc (Obj.cells #[Value.int IntKind.i64 1, Value.int IntKind.i64 (-1), Value.int IntKind.i64 1] 3)) (some ⟨w2.heap.size, 0, none⟩) 3 3 [1, -1, 1] := (KBlk.new w2 3 [1, -1, 1]).slr_all rfl (by omega) (by unfold maxLen; omega)
  have hsc : SlR .i64 (w2.alloc (Obj.cells #[Value.int IntKind.i64 1, Value.int IntKind.i64 (-1), Value.int IntKind.i64 1] 3)) A2 2 c2 [0, -1] := ho2.slr.alloc _
  have hbw2 : Below w.heap.size w w2 := hb1.trans (hb2.mono hb1.size)
  go_wp2_with fail
  refine (SameInts_eq _ _ 3 _ _ _ _ hsa hsb).mono ?_
  rintro e w3 ⟨rfl, m3, rfl⟩
  generalize hw3 : (w2.alloc (Obj.cells #[Value.int IntKind.i64 1, Value.int IntKind.i64 (-1), Value.int IntKind.i64 1] 3)).drewN m3 = w3
  have hbw3 : Below w.heap.size w w3 := by rw [← hw3]; exact hbw2.trans ⟨rfl, rfl, rfl, by simp, fun k hk => Below.heap_alloc w2 _ k (by have := hbw2.size; omega)⟩
  have hsd : SlR .i64 w3 A2 2 c2 [0, -1] := by rw [← hw3]; exact hsc.drewN m3
  clear hw3 hsa hsb hsc hb1 hb2 ho1 ho2 hbw2
  have hse : SlR .i64 (w3.alloc (Obj.cells #[Value.int IntKind.i64 0, Value.int IntKind.i64 (-1)] 3)) A2 2 c2 [0, -1] := hsd.alloc _
  have hsf : SlR .i64 (w3.alloc (Obj.cells #[Value.int IntKind.i64 0, Value.int IntKind.i64 (-1)] 3)) (some ⟨w3.heap.size, 0, none⟩) 2 2 [0, -1] := (KBlk.new w3 3 [0, -1]).slr_all rfl (by omega) (by unfold maxLen; omega)
  go_wp2_with fail
  refine (SameInts_eq _ _ 2 _ _ _ _ hse hsf).mono ?_
  rintro e w4 ⟨rfl, m4, rfl⟩
  go_wp2
  go_ret
  exact ⟨rfl, hbw3.trans ⟨rfl, rfl, rfl, by simp, fun k hk => Below.heap_alloc w3 _ k (by have := hbw3.size; omega)⟩⟩
end Go.Proofs.Ytdgigbehdmhflaa

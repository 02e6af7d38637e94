/- Contracts: fold, product. -/
import Derived.Test.YtdgigbehdmhflaaCycI
import Derived.BigRegion
namespace Go.Proofs.Ytdgigbehdmhflaa
open Go.RowKit
set_option linter.unusedVariables false

/-- The sum of a list with w^k in the place of w, after i elements. -/
def foldW (a : List Int) (k n : Nat) : Nat → List Int
  | 0 => zeros
  | i + 1 => (foldW a k n i).set (i * k % n) (wrap64 ((foldW a k n i)[i * k % n]?.getD 0 + a[i]?.getD 0))
theorem foldW_length (a : List Int) (k n i : Nat) : (foldW a k n i).length = 64 := by
  induction i with
  | zero => exact zeros_length
  | succ i ih => simp [foldW, ih]

/-- A whole array of 64 ints, stored. -/
theorem wpList_store_sum {ops : Array Oper} {rest : List Oper} {o : Oper} {a : Act} {w : World} {Q : Exit → Act → World → Prop} (hgd : o.guard = none) (p x : Operand) (ho : o.op = .store 46 p x)
    (g : Nat) (hp : a.eval p = .pointer (some ⟨g, 0, none⟩)) (l old : List Int) (hx : a.eval x = arr l) (hl : l.length = 64) (hold : old.length = 64) (t : TypeId) (hk : KBlk .i64 w g t old)
    (h : ∀ w', KBlk .i64 w' g t l → (∀ k, k ≠ g → w'.heap[k]? = w.heap[k]?) → w'.heap.size = w.heap.size → Below g w w' → wpList Try.prog ops Q rest (a.put o.dst undef) w') : wpList Try.prog ops Q (o :: rest) a w := by
  refine wpList_plain hgd fun K hK => ?_
  have hst := run_storeCells_at (P := Try.prog) g 0 t (l.map (Value.int .i64)) 0 _ w hk (by simp [hl, hold]) (by intro v hv; simp at hv; obtain ⟨z, _, rfl⟩ := hv; rfl)
  obtain ⟨i, hi, hi2⟩ := Option.map_eq_some_iff.1 sum_size
  have hcell : (arr l).cells = (l.map (Value.int .i64)).toArray := rfl
  have hrun : (storeVar 46 ⟨g, 0, none⟩ (arr l)).run Try.prog w = .ok () (w.setRow g (l.map (Value.int .i64)).toArray) := by
    unfold storeVar
    simp only [Sem.run_bind, sizeOf, typeInfo, hcell]
    simp [hi, hi2, hl]
    rw [hst]
    simp [hl]
    congr 2
    rw [List.drop_of_length_le (by simp [hold]), List.append_nil]
  unfold Oper.wp execOp
  simp only [ho, hp, hx, Instr.storeAt, Instr.sureAddr, Sem.run_bind, Sem.run_pure, Result.andThen_ok, hrun]
  exact hK _ _ (h _ (setRow_heap w g _ _ t _ hk) (fun k hk => setRow_other w g k _ hk) (by simp) ⟨rfl, rfl, rfl, by simp, fun k hk => setRow_other w g k _ (by omega)⟩)

set_option maxHeartbeats 1000000 in
theorem fold_any (A : Option Addr) (m c : Nat) (a : List Int) (k n : Nat) (w : World) (ha : SlR .i64 w A m c a) (hm : m ≤ 1000) (hk : k ≤ 64) (h1 : 1 ≤ n) (h2 : n ≤ 64) :
    Calls Try.prog 32 #[.slice A m c, .int .i64 k, .int .i64 n] w fun e w' => e = .returned (arr (foldW a k n m)) ∧ Below w.heap.size w w' := by
  go_enter Try.func32, Try.ntmps32
  go_wp2_with (with_reducible refine wpList_alloc_sum rfl rfl ?_)
  intro w0 hk0 hb0 hz0
  go_wp2_with (with_reducible refine wpList_alloc_sum rfl rfl ?_)
  intro w1 hk1 hb1 hz1
  go_wp2
  have hk01 := hk0.below hb1 (by omega)
  have hbw1 : Below w.heap.size w w1 := hb0.trans (hb1.mono (by omega))
  clear hz0 hz1 hb1 hb0
  go_loopw [12] (fun x wr => ∃ i : Nat, i ≤ m ∧ x = .int .i64 i ∧ KBlk .i64 wr (w.heap.size + 1) 46 (foldW a k n i) ∧ KBlk .i64 wr w.heap.size 46 zeros ∧ Below w.heap.size w wr) (fun x _ => m - (intOf x).toNat)
  case atStart => exact ⟨0, by omega, rfl, hk1, hk01, hbw1⟩
  case round =>
    obtain ⟨i, hi, rfl, hkf, hkz, hb⟩ := hrel
    clear hk1 hk01 hbw1 hk0
    by_cases him : i < m
    · obtain ⟨b, o, rfl, _, hc⟩ := (ha.below hb).pos him
      have hmod : i * k % n < n := Nat.mod_lt _ (by omega)
      have hik : i * k ≤ 1000 * 64 := Nat.mul_le_mul (by omega) (by omega)
      have hik0 : (0 : Int) ≤ (i : Int) * k := by rw [← Int.natCast_mul]; omega
      have hik1 : (i : Int) * k ≤ 64000 := by rw [← Int.natCast_mul]; omega
      have hix : ((i : Int) * k % n).toNat = i * k % n := by rw [← Int.natCast_mul, ← Int.natCast_emod]; rfl
      have hix0 : 0 ≤ (i : Int) * k % n := Int.emod_nonneg _ (by omega)
      have hix1 : (i : Int) * k % n < 64 := by have := Int.emod_lt_of_pos ((i : Int) * k) (show (0 : Int) < n by omega); omega
      have hc2 := hkf.cell (i := i * k % n) (by rw [foldW_length]; omega)
      have hf2 := hkf.frozen (i * k % n)
      go_wp2
      go_roundw
      case rel => exact ⟨i + 1, by omega, by go_num, hkf.set _ _, hkz.far (p := ⟨w.heap.size + 1, i * k % n, none⟩) (by simp) _, hb.setCell (p := ⟨w.heap.size + 1, i * k % n, none⟩) (by simp) _⟩
      case measure => simp [intOf]; omega
    · obtain rfl : i = m := by omega
      go_wp2_with (first | (with_reducible refine wpList_load_sum rfl (.tmp 7) rfl (w.heap.size + 1) rfl _ _ hkf (foldW_length _ _ _ _) ?_) | (with_reducible refine wpList_store_sum rfl (.tmp 6) (.tmp 28) rfl w.heap.size rfl _ _ rfl (foldW_length _ _ _ _) zeros_length _ hkz ?_))
      intro w4 hk4 hot4 hz4 hb4
      go_wp2
      exact bodyPost_ret (v := arr (foldW a k n i)) (results_cell_row Try.results32 _ _ w.heap.size _ _ (0, 0) _ rfl hk4 sum_under rfl (by rw [sum_size]; simp [foldW_length])) rfl ⟨rfl, hb.trans hb4⟩

/-- R with x times the first m elements of t added, from i on, modulo n. -/
def prodRow (R : List Int) (x : Int) (t : List Int) (i n : Nat) : Nat → List Int
  | 0 => R
  | j + 1 => (prodRow R x t i n j).set ((i + j) % n) (wrap64 ((prodRow R x t i n j)[(i + j) % n]?.getD 0 + wrap64 (x * t[j]?.getD 0)))
theorem prodRow_length (R : List Int) (x : Int) (t : List Int) (i n j : Nat) : (prodRow R x t i n j).length = R.length := by
  induction j with
  | zero => rfl
  | succ j ih => simp [prodRow, ih]
def prodW (s t : List Int) (n : Nat) : Nat → List Int
  | 0 => zeros
  | i + 1 => prodRow (prodW s t n i) (s[i]?.getD 0) t i n n
theorem prodW_length (s t : List Int) (n i : Nat) : (prodW s t n i).length = 64 := by
  induction i with
  | zero => exact zeros_length
  | succ i ih => rw [prodW, prodRow_length, ih]

set_option maxHeartbeats 2000000 in
theorem product_any (s t : List Int) (n : Nat) (w : World) (hs : s.length = 64) (ht : t.length = 64) (h1 : 1 ≤ n) (h2 : n ≤ 64) :
    Calls Try.prog 34 #[arr s, arr t, .int .i64 n] w fun e w' => e = .returned (arr (prodW s t n n)) ∧ Below w.heap.size w w' := by
  have Hs := Lib.hid hs
  have Ht := Lib.hid ht
  have hks : KBlk .i64 ((w.alloc (.cells (s.map (Value.int .i64)).toArray 46)).alloc (.cells (t.map (Value.int .i64)).toArray 46)) w.heap.size 46 s := (KBlk.new w _ s).alloc _
  have hkt : KBlk .i64 ((w.alloc (.cells (s.map (Value.int .i64)).toArray 46)).alloc (.cells (t.map (Value.int .i64)).toArray 46)) (w.heap.size + 1) 46 t := by
    have := KBlk.new (k := .i64) (w.alloc (.cells (s.map (Value.int .i64)).toArray 46)) 46 t
    simpa using this
  have hb0 : Below w.heap.size w ((w.alloc (.cells (s.map (Value.int .i64)).toArray 46)).alloc (.cells (t.map (Value.int .i64)).toArray 46)) := ((Below.refl _ _).alloc (Nat.le_refl _) _).alloc (by simp) _
  have Hks := Lib.hid hks
  have Hkt := Lib.hid hkt
  have Hb0 := Lib.hid hb0
  clear hs ht hks hkt hb0
  unfold arr
  go_enter Try.func34, Try.ntmps34
  go_wp2_with (with_reducible refine wpList_alloc_sum rfl rfl ?_)
  intro w0 hk0 hb0 hz0
  have hks0 := Hks.out.below hb0 (by omega)
  have hkt0 := Hkt.out.below hb0 (by omega)
  have hbw0 := Hb0.out.trans (hb0.mono (by omega))
  clear hb0 Hks Hkt Hb0
  go_wp2_with (with_reducible refine wpList_alloc_sum rfl rfl ?_)
  intro w1 hk1 hb1 hz1
  go_wp2
  have hks1 := hks0.below hb1 (by omega)
  have hkt1 := hkt0.below hb1 (by omega)
  have hkz1 := hk0.below hb1 (by omega)
  have hbw1 := hbw0.trans (hb1.mono (by omega))
  clear hb1 hks0 hkt0 hk0 hbw0 hz0 hz1
  obtain ⟨N, hN⟩ : ∃ N, N = w.heap.size := ⟨_, rfl⟩
  have hNl : w.heap.size ≤ N := by omega
  rw [← hN] at hk1 hks1 hkt1 hkz1 hbw1 ⊢
  clear hN
  go_loopw [11] (fun x wr => ∃ i : Nat, i ≤ n ∧ x = .int .i64 i ∧ KBlk .i64 wr (N + 1 + 1 + 1) 46 (prodW s t n i) ∧ KBlk .i64 wr N 46 s ∧ KBlk .i64 wr (N + 1) 46 t ∧ KBlk .i64 wr (N + 1 + 1) 46 zeros ∧ Below N w wr) (fun x _ => n - (intOf x).toNat)
  case atStart => exact ⟨0, by omega, rfl, hk1, hks1, hkt1, hkz1, hbw1⟩
  case round =>
    obtain ⟨i, hi, rfl, hkp, hks, hkt, hkz, hb⟩ := hrel
    clear hk1 hks1 hkt1 hkz1 hbw1
    by_cases hin : i < n
    · go_wp2
      obtain ⟨wo, rfl⟩ : ∃ wo : World, wo = wr := ⟨_, rfl⟩
      go_loopw [15] (fun x wr => ∃ j : Nat, j ≤ n ∧ x = .int .i64 j ∧ KBlk .i64 wr (N + 1 + 1 + 1) 46 (prodRow (prodW s t n i) (s[i]?.getD 0) t i n j) ∧ KBlk .i64 wr N 46 s ∧ KBlk .i64 wr (N + 1) 46 t ∧ KBlk .i64 wr (N + 1 + 1) 46 zeros ∧ Below N w wr) (fun x _ => n - (intOf x).toNat)
      case atStart => exact ⟨0, by omega, rfl, hkp, hks, hkt, hkz, hb⟩
      case round =>
        obtain ⟨j, hj, rfl, hkp, hks, hkt, hkz, hb⟩ := hrel
        by_cases hjn : j < n
        · have hmod : (i + j) % n < n := Nat.mod_lt _ (by omega)
          have hix : (((i : Int) + j) % n).toNat = (i + j) % n := by rw [← Int.natCast_add, ← Int.natCast_emod]; rfl
          have hix0 : 0 ≤ ((i : Int) + j) % n := Int.emod_nonneg _ (by omega)
          have hix1 : ((i : Int) + j) % n < 64 := by have := Int.emod_lt_of_pos ((i : Int) + j) (show (0 : Int) < n by omega); omega
          have hc1 := hks.cell (i := i) (by have := Hs.out; omega)
          have hc2 := hkt.cell (i := j) (by have := Ht.out; omega)
          have hc3 := hkp.cell (i := (i + j) % n) (by rw [prodRow_length, prodW_length]; omega)
          have hf3 := hkp.frozen ((i + j) % n)
          have hset := hkp.set ((i + j) % n) (wrap64 ((prodRow (prodW s t n i) (s[i]?.getD 0) t i n j)[(i + j) % n]?.getD 0 + wrap64 (s[i]?.getD 0 * t[j]?.getD 0)))
          have Hset := Lib.hid hset
          clear hset
          go_wp2
          go_region
          go_wp2
          go_roundw
          case rel => exact ⟨j + 1, by omega, by go_num, Hset.out, hks.far (p := ⟨N + 1 + 1 + 1, (i + j) % n, none⟩) (by simp; omega) _, hkt.far (p := ⟨N + 1 + 1 + 1, (i + j) % n, none⟩) (by simp) _, hkz.far (p := ⟨N + 1 + 1 + 1, (i + j) % n, none⟩) (by simp) _, (hb.setCell (p := ⟨N + 1 + 1 + 1, (i + j) % n, none⟩) (by simp; omega) _).drew⟩
          case measure => simp [intOf]; omega
        · obtain rfl : j = n := by omega
          go_wp2
          go_roundw
          case rel => exact ⟨i + 1, by omega, by go_num, hkp, hks, hkt, hkz, hb⟩
          case measure => simp [intOf]; omega
    · obtain rfl : i = n := by omega
      go_wp2_with (first | (with_reducible refine wpList_load_sum rfl (.tmp 7) rfl (N + 1 + 1 + 1) rfl _ _ hkp (prodW_length _ _ _ _) ?_) | (with_reducible refine wpList_store_sum rfl (.tmp 6) (.tmp 36) rfl (N + 1 + 1) rfl _ _ rfl (prodW_length _ _ _ _) zeros_length _ hkz ?_))
      intro w4 hk4 hot4 hz4 hb4
      go_wp2
      exact bodyPost_ret (v := arr (prodW s t i i)) (results_cell_row Try.results34 _ _ (N + 1 + 1) _ _ (0, 0) _ rfl hk4 sum_under rfl (by rw [sum_size]; simp [prodW_length])) rfl ⟨rfl, (hb.trans (hb4.mono (by omega))).mono hNl⟩
end Go.Proofs.Ytdgigbehdmhflaa

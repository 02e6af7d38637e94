/- What the checked table gives. No program in sight. -/
import Derived.Test.YtdgigbehdmhflaaCycK
namespace Go.Proofs.Ytdgigbehdmhflaa.Cyc
open Go.RowKit
theorem phiQ_spec (n : Nat) : ∀ (m d : Nat) (p : List Int), (∀ i, 1 ≤ (T (i + 1)).length ∨ 64 ≤ i) → d + m ≤ 64 → phiTo n d = p → phiQ n m (d + 1) p = true → phiTo n (d + m) = T n
  | 0, d, p, _, _, h, hq => by simp [phiQ] at hq; rw [Nat.add_zero, h, hq]
  | m + 1, d, p, ht, hd, h, hq => by
    rw [phiQ] at hq
    by_cases h0 : n % (d + 1) = 0
    · rw [if_pos h0] at hq
      simp only [Bool.and_eq_true, decide_eq_true_eq] at hq
      have := phiQ_spec n m (d + 1) (quotQ p (T (d + 1))) ht (by omega) (by rw [phiTo, if_pos h0, h, quot_eq _ _ (by rcases ht d with h' | h' <;> omega) (by omega)]) hq.2
      rw [← this]; congr 1; omega
    · rw [if_neg h0] at hq
      have := phiQ_spec n m (d + 1) p ht (by omega) (by rw [phiTo, if_neg h0, h]) hq
      rw [← this]; congr 1; omega
theorem phiQ_len (n : Nat) : ∀ (m d : Nat) (p : List Int), (∀ i, 1 ≤ (T (i + 1)).length ∨ 64 ≤ i) → d + m ≤ 64 → phiTo n d = p → phiQ n m (d + 1) p = true → ∀ j, j < m → n % (d + j + 1) = 0 → (T (d + j + 1)).length ≤ (phiTo n (d + j)).length
  | 0, d, p, _, _, _, _, j, hj, _ => by omega
  | m + 1, d, p, ht, hd, h, hq, j, hj, hn => by
    rw [phiQ] at hq
    by_cases h0 : n % (d + 1) = 0
    · rw [if_pos h0] at hq
      simp only [Bool.and_eq_true, decide_eq_true_eq] at hq
      rcases j with _ | j
      · simp only [Nat.add_zero]; rw [h]; exact hq.1
      · have := phiQ_len n m (d + 1) (quotQ p (T (d + 1))) ht (by omega) (by rw [phiTo, if_pos h0, h, quot_eq _ _ (by rcases ht d with h' | h' <;> omega) (by omega)]) hq.2 j (by omega) (by rw [← hn]; congr 1; omega)
        rw [show d + (j + 1) + 1 = d + 1 + j + 1 by omega, show d + (j + 1) = d + 1 + j by omega]
        exact this
    · rw [if_neg h0] at hq
      rcases j with _ | j
      · exact absurd hn h0
      · have := phiQ_len n m (d + 1) p ht (by omega) (by rw [phiTo, if_neg h0, h]) hq j (by omega) (by rw [← hn]; congr 1; omega)
        rw [show d + (j + 1) + 1 = d + 1 + j + 1 by omega, show d + (j + 1) = d + 1 + j by omega]
        exact this
theorem start_eq (n : Nat) (h : 1 ≤ n) : ((List.replicate (n + 1) (0 : Int)).set 0 (-1)).set n 1 = start n := by
  obtain ⟨m, rfl⟩ : ∃ m, n = m + 1 := ⟨n - 1, by omega⟩
  rw [List.replicate_succ, List.set_cons_zero, List.set_cons_succ, start, Nat.add_sub_cancel]
  congr 1
  rw [List.replicate_succ']
  rw [List.set_append_right _ _ (by simp)]
  simp
theorem start_length (n : Nat) (h : 1 ≤ n) : (start n).length = n + 1 := by simp [start]; omega
theorem phiTo_length (n d : Nat) (h : 1 ≤ n) : (phiTo n d).length ≤ n + 1 := by
  induction d with
  | zero => rw [phiTo, start_length n h]; exact Nat.le_refl _
  | succ d ih =>
    rw [phiTo]
    split
    · rw [quot_length]; omega
    · exact ih
theorem T_len (i : Nat) : 1 ≤ (T (i + 1)).length ∨ 64 ≤ i := by
  rcases Nat.lt_or_ge i 64 with h | h
  · left
    have := List.all_eq_true.1 tab_len i (List.mem_range.2 h)
    simpa using this
  · right; exact h
theorem phi_T (n : Nat) (h1 : 1 ≤ n) (h2 : n ≤ 64) : phiTo n (n - 1) = T n := by
  have := List.all_eq_true.1 phi_checked (n - 1) (List.mem_range.2 (by omega))
  rw [show n - 1 + 1 = n by omega, phiOk] at this
  simp only [Bool.and_eq_true, decide_eq_true_eq] at this
  have h := phiQ_spec n (n - 1) 0 (start n) T_len (by omega) rfl this.2
  rwa [Nat.zero_add] at h
theorem phi_len (n d : Nat) (h1 : 1 ≤ n) (h2 : n ≤ 64) (hd : d + 1 < n) (h0 : n % (d + 1) = 0) : (T (d + 1)).length ≤ (phiTo n d).length := by
  have := List.all_eq_true.1 phi_checked (n - 1) (List.mem_range.2 (by omega))
  rw [show n - 1 + 1 = n by omega, phiOk] at this
  simp only [Bool.and_eq_true, decide_eq_true_eq] at this
  have h := phiQ_len n (n - 1) 0 (start n) T_len (by omega) rfl this.2 d (by omega) (by rw [← h0]; congr 1; omega)
  rwa [Nat.zero_add] at h
theorem T_length_le (n : Nat) (h1 : 1 ≤ n) (h2 : n ≤ 64) : (T n).length ≤ n + 1 := by
  rw [← phi_T n h1 h2]; exact phiTo_length n _ h1
theorem T_length (n : Nat) (h1 : 1 ≤ n) (h2 : n ≤ 64) : (T n).length = deg n + 1 := by
  obtain ⟨m, rfl⟩ : ∃ m, n = m + 1 := ⟨n - 1, by omega⟩
  have := T_len m
  unfold deg; omega
theorem deg_le (n : Nat) (h1 : 1 ≤ n) (h2 : n ≤ 64) : deg n ≤ n := by have := T_length n h1 h2; have := T_length_le n h1 h2; omega
theorem normalW_length (S : List Int) (n : Nat) (h1 : 1 ≤ n) (h2 : n ≤ 64) (hS : S.length = 64) : (normalW S n).length = deg n := by
  have := deg_le n h1 h2
  simp [normalW, redGo_length, hS]; omega
end Go.Proofs.Ytdgigbehdmhflaa.Cyc

/- Natural numbers as lists of digits to the base 2^32, the lowest first. No program in sight. -/
import Derived.Test.YtnedhbidmfoegaaGreatLib
namespace Go.Proofs.YtnedhbidmfoegaaGreat.Nt

/-- The base. -/
abbrev B : Nat := 4294967296
def val : List Int → Int
  | [] => 0
  | x :: l => x + 4294967296 * val l
def Dig (l : List Int) : Prop := ∀ x ∈ l, 0 ≤ x ∧ x < 4294967296
/-- 2^32 to the power i. -/
def pw : Nat → Int
  | 0 => 1
  | i + 1 => 4294967296 * pw i
theorem pw_pos (i : Nat) : 0 < pw i := by
  induction i with
  | zero => simp [pw]
  | succ i ih => simp only [pw]; omega
theorem pw_add (i j : Nat) : pw (i + j) = pw i * pw j := by
  induction i with
  | zero => simp [pw]
  | succ i ih => rw [show i + 1 + j = i + j + 1 by omega, pw, pw, ih, Int.mul_assoc]
theorem pw_mono {i j : Nat} (h : i ≤ j) : pw i ≤ pw j := by
  obtain ⟨k, rfl⟩ : ∃ k, j = i + k := ⟨j - i, by omega⟩
  rw [pw_add]
  have h1 := pw_pos i
  have h2 := pw_pos k
  have : pw i * 1 ≤ pw i * pw k := Int.mul_le_mul_of_nonneg_left (by omega) (by omega)
  omega
theorem Dig.nil : Dig [] := fun x hx => by simp at hx
theorem Dig.cons {x : Int} {l : List Int} (hx : 0 ≤ x ∧ x < 4294967296) (h : Dig l) : Dig (x :: l) := by
  intro y hy
  rcases List.mem_cons.1 hy with rfl | hy
  · exact hx
  · exact h y hy
theorem Dig.head {x : Int} {l : List Int} (h : Dig (x :: l)) : 0 ≤ x ∧ x < 4294967296 := h x (by simp)
theorem Dig.tail {x : Int} {l : List Int} (h : Dig (x :: l)) : Dig l := fun y hy => h y (by simp [hy])
theorem Dig.at {l : List Int} (h : Dig l) (i : Nat) : 0 ≤ l[i]?.getD 0 ∧ l[i]?.getD 0 < 4294967296 := by
  rcases Nat.lt_or_ge i l.length with hi | hi
  · rw [List.getElem?_eq_getElem hi]; exact h _ (List.getElem_mem hi)
  · rw [List.getElem?_eq_none hi]; simp
theorem Dig.take {l : List Int} (h : Dig l) (n : Nat) : Dig (l.take n) := fun x hx => h x (List.mem_of_mem_take hx)
theorem Dig.drop {l : List Int} (h : Dig l) (n : Nat) : Dig (l.drop n) := fun x hx => h x (List.mem_of_mem_drop hx)
theorem Dig.append {l m : List Int} (h : Dig l) (k : Dig m) : Dig (l ++ m) := fun x hx => by
  rcases List.mem_append.1 hx with hx | hx
  · exact h x hx
  · exact k x hx
theorem Dig.set {l : List Int} (h : Dig l) (i : Nat) {x : Int} (hx : 0 ≤ x ∧ x < 4294967296) : Dig (l.set i x) := fun y hy => by
  rcases List.mem_or_eq_of_mem_set hy with hy | rfl
  · exact h y hy
  · exact hx
theorem Dig.repl (n : Nat) : Dig (List.replicate n 0) := fun x hx => by
  rw [List.mem_replicate] at hx; omega
theorem val_nonneg {l : List Int} (h : Dig l) : 0 ≤ val l := by
  induction l with
  | nil => simp [val]
  | cons x l ih => have := h.head; have := ih h.tail; simp only [val]; omega
theorem val_lt {l : List Int} (h : Dig l) : val l < pw l.length := by
  induction l with
  | nil => simp [val, pw]
  | cons x l ih => have := h.head; have := ih h.tail; simp only [val, List.length_cons, pw]; omega
theorem val_append (l m : List Int) : val (l ++ m) = val l + pw l.length * val m := by
  induction l with
  | nil => simp [val, pw]
  | cons x l ih => simp only [List.cons_append, val, List.length_cons, pw, ih]; rw [Int.mul_add, ← Int.mul_assoc, Int.add_assoc]
theorem val_repl (n : Nat) : val (List.replicate n 0) = 0 := by
  induction n with
  | zero => rfl
  | succ n ih => rw [List.replicate_succ, val, ih]; rfl
/-- The value of the first i digits of a list that goes on with zeros. -/
def valTo (l : List Int) (i : Nat) : Int := val (l.take i)
theorem valTo_zero (l : List Int) : valTo l 0 = 0 := by simp [valTo, val]
theorem valTo_succ (l : List Int) (i : Nat) : valTo l (i + 1) = valTo l i + pw i * l[i]?.getD 0 := by
  unfold valTo
  rcases Nat.lt_or_ge i l.length with hi | hi
  · rw [List.take_succ_eq_append_getElem hi, val_append, List.getElem?_eq_getElem hi]
    simp [val, Nat.min_eq_left (Nat.le_of_lt hi)]
  · rw [List.getElem?_eq_none hi, List.take_of_length_le (by omega), List.take_of_length_le hi]; simp
theorem valTo_all (l : List Int) {n : Nat} (h : l.length ≤ n) : valTo l n = val l := by unfold valTo; rw [List.take_of_length_le h]
theorem valTo_set_lt (l : List Int) {i j : Nat} (x : Int) (h : i ≤ j) : valTo (l.set j x) i = valTo l i := by
  unfold valTo
  rw [List.take_set]
  congr 1
  exact List.set_eq_of_length_le (by simp; omega)
theorem valTo_set (l : List Int) {i : Nat} (x : Int) (h : i < l.length) : valTo (l.set i x) (i + 1) = valTo l i + pw i * x := by
  rw [valTo_succ, valTo_set_lt l x (Nat.le_refl _)]
  simp [h]
theorem valTo_nonneg {l : List Int} (h : Dig l) (i : Nat) : 0 ≤ valTo l i := val_nonneg (h.take i)
theorem valTo_lt {l : List Int} (h : Dig l) (i : Nat) : valTo l i < pw i := by
  have h1 := val_lt (h.take i)
  have : pw (l.take i).length ≤ pw i := pw_mono (by simp; omega)
  unfold valTo; omega
theorem val_split (l : List Int) (i : Nat) (h : i ≤ l.length) : val l = valTo l i + pw i * val (l.drop i) := by
  unfold valTo
  conv => lhs; rw [← List.take_append_drop i l]
  rw [val_append]; simp [Nat.min_eq_left h]

/-- A list without zeros at its end. -/
def strip (l : List Int) : List Int :=
  match l with
  | [] => []
  | x :: l => if strip l = [] ∧ x = 0 then [] else x :: strip l
def Norm (l : List Int) : Prop := strip l = l
theorem strip_val (l : List Int) : val (strip l) = val l := by
  induction l with
  | nil => rfl
  | cons x l ih =>
    rw [strip]
    split
    · rename_i h; simp only [val]; rw [← ih, h.1, h.2]; simp [val]
    · simp only [val]; rw [ih]
theorem strip_dig {l : List Int} (h : Dig l) : Dig (strip l) := by
  induction l with
  | nil => exact Dig.nil
  | cons x l ih =>
    rw [strip]
    split
    · exact Dig.nil
    · exact Dig.cons h.head (ih h.tail)
theorem strip_strip (l : List Int) : strip (strip l) = strip l := by
  induction l with
  | nil => rfl
  | cons x l ih =>
    rw [strip]
    split
    · rfl
    · rename_i h
      rw [strip, ih, if_neg h]
theorem strip_norm (l : List Int) : Norm (strip l) := strip_strip l
theorem strip_length_le (l : List Int) : (strip l).length ≤ l.length := by
  induction l with
  | nil => exact Nat.le_refl _
  | cons x l ih =>
    rw [strip]
    split
    · simp
    · simp; omega
theorem strip_take (l : List Int) : strip l = l.take (strip l).length := by
  induction l with
  | nil => rfl
  | cons x l ih =>
    rw [strip]
    split
    · rfl
    · simp; exact ih
/-- The digits of a number, without zeros at the end. -/
def digits (v : Nat) : List Int := if v = 0 then [] else ((v % 4294967296 : Nat) : Int) :: digits (v / 4294967296)
termination_by v
decreasing_by omega
theorem digits_zero : digits 0 = [] := by rw [digits]; simp
theorem digits_dig (v : Nat) : Dig (digits v) := by
  induction v using Nat.strongRecOn with
  | ind v ih =>
    rw [digits]
    split
    · exact Dig.nil
    · exact Dig.cons (by omega) (ih _ (by omega))
theorem digits_val (v : Nat) : val (digits v) = v := by
  induction v using Nat.strongRecOn with
  | ind v ih =>
    rw [digits]
    split
    · rename_i h; rw [h]; rfl
    · simp only [val]; rw [ih _ (by omega)]; omega
theorem digits_norm (v : Nat) : Norm (digits v) := by
  unfold Norm
  induction v using Nat.strongRecOn with
  | ind v ih =>
    rw [digits]
    split
    · rfl
    · rename_i h
      rw [strip, ih _ (by omega), if_neg]
      rintro ⟨h1, h2⟩
      have := digits_val (v / 4294967296)
      rw [h1] at this
      simp [val] at this
      omega
theorem norm_tail {x : Int} {l : List Int} (h : Norm (x :: l)) : Norm l := by
  unfold Norm at h ⊢
  rw [strip] at h
  split at h
  · cases h
  · injection h
/-- A list of digits without zeros at its end is the digits of its value. -/
theorem norm_eq {l : List Int} (hd : Dig l) (hn : Norm l) : l = digits (val l).toNat := by
  induction l with
  | nil => simp [val, digits_zero]
  | cons x l ih =>
    have h0 := hd.head
    have h1 := val_nonneg hd.tail
    have e := ih hd.tail (norm_tail hn)
    have hne : ¬ (x + 4294967296 * val l).toNat = 0 := by
      intro h
      have hx : x = 0 := by omega
      have hv : val l = 0 := by omega
      have hl : l = [] := by rw [e, hv]; exact digits_zero
      unfold Norm at hn
      rw [hl, hx] at hn
      simp [strip] at hn
    simp only [val]
    rw [digits, if_neg hne]
    have a1 : (((x + 4294967296 * val l).toNat % 4294967296 : Nat) : Int) = x := by omega
    have a2 : (x + 4294967296 * val l).toNat / 4294967296 = (val l).toNat := by omega
    rw [a1, a2, ← e]
theorem strip_eq {l : List Int} (hd : Dig l) : strip l = digits (val l).toNat := by
  rw [norm_eq (strip_dig hd) (strip_norm l), strip_val]
theorem digits_length_le {v n : Nat} (h : (v : Int) < pw n) : (digits v).length ≤ n := by
  induction n generalizing v with
  | zero => simp [pw] at h; have : v = 0 := by omega
            rw [this, digits_zero]; exact Nat.le_refl _
  | succ n ih =>
    rw [digits]
    split
    · simp
    · simp only [List.length_cons]
      have := ih (v := v / 4294967296) (by rw [pw] at h; omega)
      omega
theorem digits_length_pos {v : Nat} (h : 0 < v) : 0 < (digits v).length := by rw [digits, if_neg (by omega)]; simp
theorem digits_length_gt {v n : Nat} (h : pw n ≤ (v : Int)) : n < (digits v).length := by
  rcases Nat.lt_or_ge n (digits v).length with h' | h'
  · exact h'
  · have h1 := val_lt (digits_dig v)
    rw [digits_val] at h1
    have := pw_mono h'
    omega
end Go.Proofs.YtnedhbidmfoegaaGreat.Nt

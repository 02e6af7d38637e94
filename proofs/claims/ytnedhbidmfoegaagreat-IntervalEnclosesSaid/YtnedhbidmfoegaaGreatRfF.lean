/- The reference's long division: what it needs, without the walk. -/
import Derived.Test.YtnedhbidmfoegaaGreatRfE
import Derived.Test.YtnedhbidmfoegaaGreatNatK
namespace Go.Proofs.YtnedhbidmfoegaaGreat
open Go.RowKit
set_option linter.unusedVariables false
theorem rShift_down (A : Option Addr) (n c z : Nat) (a : List Int) (w : World) (ha : SlR .u32 w A n c a) (da : Nt.Dig a) (hn : n ≤ 1000000000) (hz : z < 32) :
    Calls Tryz.prog 203 #[.slice A n c, .int .i64 (-(z : Int))] w fun e w' => ∃ A' n' c', e = .returned (.slice A' n' c') ∧ OwnF w w' A' n' c' (Nt.val a / 2 ^ z).toNat ∧ Below w.heap.size w w' := by
  rcases Nat.eq_zero_or_pos z with h | h
  · subst h
    have k := rShift_pos A n c 0 a w ha da hn (by omega)
    simp only [Int.pow_zero, Int.mul_one, Int.ediv_one] at k ⊢
    exact k
  · exact rShift_neg A n c z a w ha da hn h hz
namespace Nt
theorem and_low {p : Int} (h0 : 0 ≤ p) (h1 : p < 18446744073709551616) : bits .and .u64 p 4294967295 = p % 4294967296 :=
  bits_mask .u64 64 (by decide) (fun n h0 h1 => by rw [IntKind.wrap_u64]; omega) 32 (by decide) p h0 h1
/-- The list of the remainder, one digit of the quotient taken. -/
structure DigP (j n i : Nat) (L v S : List Int) (q cr bo : Int) : Prop where
  len : S.length = L.length
  dig : Dig S
  sum : valTo (S.drop j) i + q * valTo v i = valTo (L.drop j) i + (cr + bo) * pw i
  same : ∀ k, k < j ∨ j + i ≤ k → S[k]? = L[k]?
theorem DigP.next {j n i : Nat} {L v S : List Int} {q cr bo d x p t : Int} (h : DigP j n i L v S q cr bo) (hj : j + (n + 2) + 1 ≤ L.length) (hi : i < n + 2) (hd : d = v[i]?.getD 0) (hx : x = S[j + i]?.getD 0) (hp : p = q * d + cr) (ht : t = x - p % 4294967296 - bo) (t0 : -4294967296 ≤ t) (t1 : t < 4294967296) :
    DigP j n (i + 1) L v (S.set (j + i) (t % 4294967296)) q (p / 4294967296) (if t < 0 then 1 else 0) := by
  refine ⟨by rw [List.length_set]; exact h.len, h.dig.set _ (by omega), ?_, ?_⟩
  · rw [drop_set]
    refine ms_step (M := S.drop j) (u := L.drop j) (v := v) (p := p) (t := t) (by have := h.len; simp; omega) h.sum ?_ (by rw [← hd]; exact hp) (by rw [drop_getD, ← hx]; exact ht) t0 t1
    rw [drop_getD, drop_getD, h.same (j + i) (.inr (Nat.le_refl _))]
  · intro k hk
    rw [List.getElem?_set_ne (by omega)]
    exact h.same k (by omega)
structure DigQ (j n i : Nat) (M v R : List Int) (c : Int) : Prop where
  len : R.length = M.length
  dig : Dig R
  sum : valTo (R.drop j) i + c * pw i = valTo (M.drop j) i + valTo v i
  same : ∀ k, k < j ∨ j + i ≤ k → R[k]? = M[k]?
theorem DigQ.next {j n i : Nat} {M v R : List Int} {c d x t : Int} (h : DigQ j n i M v R c) (hj : j + (n + 2) + 1 ≤ M.length) (hi : i < n + 2) (hd : d = v[i]?.getD 0) (hx : x = R[j + i]?.getD 0) (ht : t = x + d + c) :
    DigQ j n (i + 1) M v (R.set (j + i) (t % 4294967296)) (t / 4294967296) := by
  refine ⟨by rw [List.length_set]; exact h.len, h.dig.set _ (by omega), ?_, ?_⟩
  · rw [drop_set]
    refine ab_step (M := M.drop j) (R := R.drop j) (v := v) (t := t) (by have := h.len; simp; omega) h.sum ?_ (by rw [drop_getD, ← hx, ← hd]; exact ht)
    rw [drop_getD, drop_getD, h.same (j + i) (.inr (Nat.le_refl _))]
  · intro k hk
    rw [List.getElem?_set_ne (by omega)]
    exact h.same k (by omega)
/-- What one digit's division leaves. -/
def DigR (j N : Nat) (L v L' : List Int) (q : Int) : Prop := L'.length = L.length ∧ Dig L' ∧ (∀ k, k < j ∨ j + N + 1 ≤ k → L'[k]? = L[k]?) ∧ 0 ≤ q ∧ q < 4294967296 ∧ valTo (L.drop j) (N + 1) = q * val v + valTo (L'.drop j) (N + 1) ∧ valTo (L'.drop j) (N + 1) < val v
theorem DigP.done {j n : Nat} {L v S : List Int} {q cr bo u0 t T top v1 v2 u2 : Int} (h : DigP j n (n + 2) L v S q cr bo) (hj : j + (n + 2) + 1 ≤ L.length) (hv : v.length = n + 2) (dv : Dig v) (dL : Dig L) (hu : u0 = L[j + (n + 2)]?.getD 0) (ht : t = u0 - cr - bo) (t0 : 0 ≤ t) (t1 : t < 4294967296) (q0 : 0 ≤ q) (q1 : q < 4294967296) (hF : DivFacts j n L v top u2 v1 v2) (hT : T = valTo (L.drop j) (n + 3) / val v) (hG : Good T top v1 v2 u2 q) (h1 : 1 ≤ v1) (h2 : 0 ≤ v2) :
    DigR j (n + 2) L v (S.set (j + (n + 2)) t) q := by
  have hs := h.sum
  rw [valTo_all v (by omega)] at hs
  have e : valTo ((S.set (j + (n + 2)) t).drop j) (n + 2 + 1) = valTo (L.drop j) (n + 2 + 1) - q * val v := by
    rw [drop_set, valTo_set _ _ (by have := h.len; simp; omega)]
    refine ms_end0 (Ul := valTo (L.drop j) (n + 2)) (uN := u0) hs ?_ ht
    rw [valTo_succ, drop_getD, ← hu]
  have hend := hG.end (pw_pos n) hF.eV (valTo_nonneg dv n) (valTo_lt dv n) hF.eU (valTo_nonneg (dL.drop j) n) h1 h2 (by rw [hT]; exact hF.tU) hF.vp
  refine ⟨by rw [List.length_set]; exact h.len, h.dig.set _ ⟨t0, t1⟩, ?_, q0, q1, ?_, ?_⟩
  · intro k hk
    rw [List.getElem?_set_ne (by omega)]
    exact h.same k (by omega)
  · rw [e]; omega
  · rw [e]; exact hend.2
theorem DigQ.done {j n : Nat} {L v S R : List Int} {q cr bo u0 t c T top v1 v2 u2 : Int} (h0 : DigP j n (n + 2) L v S q cr bo) (h : DigQ j n (n + 2) (S.set (j + (n + 2)) (t % 4294967296)) v R c) (hj : j + (n + 2) + 1 ≤ L.length) (hv : v.length = n + 2) (dv : Dig v) (dL : Dig L) (hu : u0 = L[j + (n + 2)]?.getD 0) (ht : t = u0 - cr - bo) (t0 : t < 0) (t1 : -4294967296 ≤ t) (q0 : 0 ≤ q) (q1 : q < 4294967296) (hF : DivFacts j n L v top u2 v1 v2) (hT : T = valTo (L.drop j) (n + 3) / val v) (hG : Good T top v1 v2 u2 q) (h1 : 1 ≤ v1) (h2 : 0 ≤ v2) :
    R[j + (n + 2)]?.getD 0 = t % 4294967296 ∧ 1 ≤ q ∧ (t % 4294967296 + c) % 4294967296 = 0 ∧ DigR j (n + 2) L v (R.set (j + (n + 2)) 0) (q - 1) := by
  have hs := h0.sum
  have ha := h.sum
  rw [valTo_all v (by omega)] at hs ha
  have e : valTo (S.drop j) (n + 2) + pw (n + 2) * t = valTo (L.drop j) (n + 2 + 1) - q * val v := by
    refine ms_end0 (Ul := valTo (L.drop j) (n + 2)) (uN := u0) hs ?_ ht
    rw [valTo_succ, drop_getD, ← hu]
  have hend := hG.end (pw_pos n) hF.eV (valTo_nonneg dv n) (valTo_lt dv n) hF.eU (valTo_nonneg (dL.drop j) n) h1 h2 (by rw [hT]; exact hF.tU) hF.vp
  have hU0 := valTo_nonneg (dL.drop j) (n + 2 + 1)
  rw [show n + 3 = n + 2 + 1 by omega] at hend
  have hX := valTo_lt (h0.dig.drop j) (n + 2)
  have hP := pw_pos (n + 2)
  have hVP := val_lt dv
  rw [hv] at hVP
  have hneg : valTo (L.drop j) (n + 2 + 1) - q * val v < 0 := by
    have : pw (n + 2) * t ≤ pw (n + 2) * (-1) := Int.mul_le_mul_of_nonneg_left (by omega) (by omega)
    omega
  have hq1 : 1 ≤ q := by
    rcases (show q = 0 ∨ 1 ≤ q by omega) with hq | hq
    · rw [hq] at hneg; omega
    · exact hq
  have hsl : valTo ((S.set (j + (n + 2)) (t % 4294967296)).drop j) (n + 2) = valTo (S.drop j) (n + 2) := by rw [drop_set, valTo_set_lt _ _ (Nat.le_refl _)]
  rw [hsl] at ha
  have hlen : (S.set (j + (n + 2)) (t % 4294967296)).length = L.length := by rw [List.length_set]; exact h0.len
  obtain ⟨k1, k2⟩ := ab_end hP ha e.symm (valTo_nonneg (h.dig.drop j) (n + 2)) (valTo_lt (h.dig.drop j) (n + 2)) (by have := hend.1; omega) (by omega)
  refine ⟨?_, hq1, by omega, by rw [List.length_set, h.len, hlen], h.dig.set _ (by omega), ?_, by omega, by omega, ?_, ?_⟩
  · rw [h.same _ (.inr (Nat.le_refl _))]
    simp [show j + (n + 2) < S.length by have := h0.len; omega]
  · intro k hk
    rw [List.getElem?_set_ne (by omega), h.same k (by omega), List.getElem?_set_ne (by omega)]
    exact h0.same k (by omega)
  · rw [drop_set, valTo_set _ _ (by rw [List.length_drop, h.len, hlen]; omega), k2, Int.sub_mul]; omega
  · rw [drop_set, valTo_set _ _ (by rw [List.length_drop, h.len, hlen]; omega), k2]; omega
theorem DigP.neg {j n : Nat} {L v S : List Int} {q cr bo u0 t : Int} (h0 : DigP j n (n + 2) L v S q cr bo) (hv : v.length = n + 2) (dL : Dig L) (hu : u0 = L[j + (n + 2)]?.getD 0) (ht : t = u0 - cr - bo) (t0 : t < 0) (q0 : 0 ≤ q) : 1 ≤ q := by
  have hs := h0.sum
  rw [valTo_all v (by omega)] at hs
  have e : valTo (S.drop j) (n + 2) + pw (n + 2) * t = valTo (L.drop j) (n + 2 + 1) - q * val v := by
    refine ms_end0 (Ul := valTo (L.drop j) (n + 2)) (uN := u0) hs ?_ ht
    rw [valTo_succ, drop_getD, ← hu]
  have hU0 := valTo_nonneg (dL.drop j) (n + 2 + 1)
  have hX := valTo_lt (h0.dig.drop j) (n + 2)
  have hP := pw_pos (n + 2)
  have : pw (n + 2) * t ≤ pw (n + 2) * (-1) := Int.mul_le_mul_of_nonneg_left (by omega) (by omega)
  rcases (show q = 0 ∨ 1 ≤ q by omega) with hq | hq
  · rw [hq] at e; omega
  · exact hq
theorem lz2 {y : Nat} (h0 : 0 < y) (h1 : y < 4294967296) : ∃ z : Nat, 32 - (bitl y : Int) = z ∧ z < 32 ∧ 2147483648 ≤ (y : Int) * 2 ^ z ∧ ((y : Int) + 1) * 2 ^ z ≤ 4294967296 := by
  have p2 := bitl_le h0
  have p3 := bitl_lt y
  have p1 : bitl y ≠ 0 := by unfold bitl; rw [if_neg (by omega)]; omega
  have hl : bitl y ≤ 32 := by
    have h3 : 2 ^ (bitl y - 1) < 2 ^ 32 := by omega
    have := (Nat.pow_lt_pow_iff_right (show 1 < 2 by omega)).1 h3
    omega
  generalize bitl y = b at *
  have k1 : 2 ^ (b - 1) * 2 ^ (32 - b) = 2147483648 := by rw [← Nat.pow_add, show b - 1 + (32 - b) = 31 by omega]
  have k2 : 2 ^ b * 2 ^ (32 - b) = 4294967296 := by rw [← Nat.pow_add, show b + (32 - b) = 32 by omega]
  have hp : 0 < 2 ^ (32 - b) := Nat.pow_pos (by omega)
  have a1 : 2 ^ (b - 1) * 2 ^ (32 - b) ≤ y * 2 ^ (32 - b) := Nat.mul_le_mul_right _ p2
  have a2 : (y + 1) * 2 ^ (32 - b) ≤ 2 ^ b * 2 ^ (32 - b) := Nat.mul_le_mul_right _ p3
  rw [k1] at a1
  rw [k2] at a2
  refine ⟨32 - b, by omega, by omega, ?_, ?_⟩
  · have : ((y * 2 ^ (32 - b) : Nat) : Int) = (y : Int) * 2 ^ (32 - b) := by rw [Int.natCast_mul, Int.natCast_pow]; rfl
    omega
  · have : (((y + 1) * 2 ^ (32 - b) : Nat) : Int) = ((y : Int) + 1) * 2 ^ (32 - b) := by rw [Int.natCast_mul, Int.natCast_pow]; rfl
    omega
/-- The divisor, shifted: as many digits, the highest bit set. -/
theorem vnorm {Y N z : Nat} {y : Int} (hl : (digits Y).length = N + 2) (hy : y = (digits Y)[N + 1]?.getD 0) (h1 : 2147483648 ≤ y * 2 ^ z) (h2 : (y + 1) * 2 ^ z ≤ 4294967296) :
    (digits (Y * 2 ^ z)).length = N + 2 ∧ 2147483648 ≤ (digits (Y * 2 ^ z))[N + 1]?.getD 0 := by
  have hp := pw_pos (N + 1)
  have hz := p2_pos z
  have eb : (Y : Int) = valTo (digits Y) (N + 1) + pw (N + 1) * y := by
    have h := digits_val Y
    rw [← valTo_all (digits Y) (n := N + 2) (by omega), valTo_succ, ← hy] at h
    exact h.symm
  have b0 := valTo_nonneg (digits_dig Y) (N + 1)
  have b1 := valTo_lt (digits_dig Y) (N + 1)
  have ep : pw (N + 2) = 4294967296 * pw (N + 1) := rfl
  have ec : ((Y * 2 ^ z : Nat) : Int) = (Y : Int) * 2 ^ z := by rw [Int.natCast_mul, Int.natCast_pow]; rfl
  have hlt : (Y : Int) * 2 ^ z < pw (N + 2) := by
    have k1 : (Y : Int) * 2 ^ z < (pw (N + 1) * (y + 1)) * 2 ^ z := Int.mul_lt_mul_of_pos_right (by rw [eb, Int.mul_add]; omega) hz
    have k2 : (pw (N + 1) * (y + 1)) * 2 ^ z ≤ pw (N + 1) * 4294967296 := by rw [Int.mul_assoc]; exact Int.mul_le_mul_of_nonneg_left h2 (by omega)
    omega
  have k3 : pw (N + 1) * (y * 2 ^ z) ≤ (Y : Int) * 2 ^ z := by
    rw [eb, Int.add_mul, Int.mul_assoc]
    have : 0 ≤ valTo (digits Y) (N + 1) * 2 ^ z := Int.mul_nonneg b0 (by omega)
    omega
  have k4 : pw (N + 1) * 2147483648 ≤ pw (N + 1) * (y * 2 ^ z) := Int.mul_le_mul_of_nonneg_left h1 (by omega)
  have l1 := digits_length_le (v := Y * 2 ^ z) (n := N + 2) (by rw [ec]; exact hlt)
  have l2 := digits_length_gt (v := Y * 2 ^ z) (n := N + 1) (by rw [ec]; omega)
  have l3 : (digits (Y * 2 ^ z)).length = N + 2 := by omega
  refine ⟨l3, ?_⟩
  have ev : (Y : Int) * 2 ^ z = valTo (digits (Y * 2 ^ z)) (N + 1) + pw (N + 1) * (digits (Y * 2 ^ z))[N + 1]?.getD 0 := by
    have h := digits_val (Y * 2 ^ z)
    rw [← valTo_all (digits (Y * 2 ^ z)) (n := N + 2) (by omega), valTo_succ, ec] at h
    exact h.symm
  have v1 := valTo_lt (digits_dig (Y * 2 ^ z)) (N + 1)
  have k5 : pw (N + 1) * 2147483648 < pw (N + 1) * ((digits (Y * 2 ^ z))[N + 1]?.getD 0 + 1) := by rw [Int.mul_add _ _ 1]; omega
  have := Int.lt_of_mul_lt_mul_left k5 (by omega)
  omega
/-- The dividend, shifted, with a 0 above it: its upper part is less than the divisor. -/
theorem ulow {u v : List Int} {M N : Nat} (du : Dig u) (hl : u.length + 1 = M + (N + 2)) (dv : Dig v) (hv : v.length = N + 2) (hv1 : 2147483648 ≤ v[N + 1]?.getD 0) : val ((u ++ [0]).drop M) < val v := by
  have hd : Dig (u ++ [0]) := du.snoc (by omega)
  have e := val_take_drop (u ++ [0]) M
  have e2 : val (u ++ [0]) = val u := by rw [snoc_val]; simp
  have u1 := val_lt du
  have u0 := valTo_nonneg hd M
  have hp := pw_pos M
  rw [show u.length = M + (N + 1) by omega, pw_add] at u1
  have k2 : pw M * val ((u ++ [0]).drop M) < pw M * pw (N + 1) := by omega
  have k3 := Int.lt_of_mul_lt_mul_left k2 (by omega)
  have ev : val v = valTo v (N + 1) + pw (N + 1) * v[N + 1]?.getD 0 := by rw [← valTo_all v (n := N + 2) (by omega), valTo_succ]
  have v0 := valTo_nonneg dv (N + 1)
  have hp1 := pw_pos (N + 1)
  have k4 : pw (N + 1) * 1 ≤ pw (N + 1) * v[N + 1]?.getD 0 := Int.mul_le_mul_of_nonneg_left (by omega) (by omega)
  omega
end Nt
/-- 'append(s, x...)' where something is appended: only the row of s is written. -/
theorem wpList_appendG {P : Program} (w : World) {ops : Array Oper} {rest : List Oper} {o : Oper} {a : Act} {Q : Exit → Act → World → Prop} (hgd : o.guard = none) (s x : Operand) (t : TypeId)
    (ho : o.op = .call { callee := .builtin .append, args := #[s, x], argTypes := #[t, t] })
    (e : TypeId) (k : IntKind) (bytes : Nat) (h1 : P.underlying t = some (.slice e)) (h2 : (P.info? e).map (fun i => (i.zero, i.size, i.bytes)) = some (some (.int k 0), 1, bytes))
    (base : Nat) (A : Option Addr) (n c : Nat) (l : List Int) (hs : a.eval s = .slice A n c) (hown : OwnK k w base e A n c l)
    (ad : Addr) (m c' : Nat) (news : List Int) (hx : a.eval x = .slice (some ad) m c') (hr : SlR k w (some ad) m c' news)
    (h63 : n + m ≤ maxLen) (hbytes : (n + m) * bytes ≤ 140737488355328) (hbase : base ≤ w.heap.size)
    (h : ∀ A₁ c₁ w', OwnK k w' base e A₁ (n + m) c₁ (l ++ news) → Below base w w' → (∀ b, b < w.heap.size → (∀ p, A = some p → p.block ≠ b) → w'.heap[b]? = w.heap[b]?) → (∀ p, A₁ = some p → (∃ p0, A = some p0 ∧ p.block = p0.block) ∨ p.block = w.heap.size) → w.heap.size ≤ w'.heap.size → wpList P ops Q rest (a.put o.dst (.slice A₁ (n + m) c₁)) w') : wpList P ops Q (o :: rest) a w := by
  obtain ⟨i, hi, hz, hsz, hb⟩ := info_parts h2
  refine wpList_plain hgd fun K hK => ?_
  obtain ⟨v', w', hrun, g1, g2, _, g4⟩ := run_append_own_at (P := P) w base t o.type e i _ 1 bytes h1 hi hz hsz hb rfl (by omega) _ n _ hown.2 ad m c' (news.map (Value.int k)) (by simpa using hr.1)
    (by
      intro j u hu
      have hj : j < m := by rw [← hr.1]; rcases Nat.lt_or_ge j news.length with h' | h'; exact h'; simp [List.getElem?_eq_none h'] at hu
      obtain ⟨b, q, he, hlt, hcell⟩ := hr.2.2.2 (by omega)
      injection he with he
      subst he
      rw [show (⟨b, q, none⟩ : Addr).add j = ⟨b, q + j, none⟩ by unfold Addr.add; split <;> simp_all, hcell j hj, ← hu]
      simp [show j < news.length by rw [hr.1]; exact hj])
    (by intro u hu; simp at hu; obtain ⟨z, _, rfl⟩ := hu; rfl) h63 hbytes hbase
  have g3 : Below base w w' := (Below.refl _ _).grown g2 hbase (fun j hj => (hown.2.lt j hj).1)
  obtain ⟨A₁, c₁, hv⟩ : ∃ A₁ c₁, v' = .slice A₁ (n + m) c₁ := by
    rcases g1.2 with ⟨he, hn⟩ | ⟨g, cap, cur, he, _⟩
    · exact ⟨none, 0, by rw [he, hn]⟩
    · exact ⟨_, _, he⟩
  subst hv
  have hown' : OwnK k w' base e A₁ (n + m) c₁ (l ++ news) := ⟨by simp [hown.1, hr.1], by simpa using g1⟩
  unfold Oper.wp execOp
  simp only [ho, resolve, invoke, builtin, Sem.run_bind, Sem.run_pure, Result.andThen_ok, List.map_toArray, List.map_cons, List.map_nil, hs, hx, hrun]
  refine hK _ _ (h A₁ c₁ w' hown' g3 ?_ ?_ g2.size)
  · intro b hb' hne
    refine g2.block b hb' ?_
    rcases A with _ | p
    · simp [Value.ownBlock]
    · simp only [Value.ownBlock]
      intro h'
      injection h' with h'
      exact hne p rfl h'.symm
  · intro p hp
    subst hp
    rcases g4 with h' | h'
    · left
      rcases A with _ | p0
      · simp [Value.ownBlock] at h'
      · simp only [Value.ownBlock] at h'
        injection h' with h'
        exact ⟨p0, rfl, h'⟩
    · right
      simp only [Value.ownBlock] at h'
      injection h'
theorem SlR.blk {k : IntKind} {w w' : World} {g o n c : Nat} {l : List Int} (h : SlR k w (some ⟨g, o, none⟩) n c l) (hb : w'.heap[g]? = w.heap[g]?) (hs : w.heap.size ≤ w'.heap.size) : SlR k w' (some ⟨g, o, none⟩) n c l := by
  obtain ⟨h1, h2, h3, h4⟩ := h
  refine ⟨h1, h2, h3, fun hp => ?_⟩
  obtain ⟨b, q, e, hlt, hc⟩ := h4 hp
  cases e
  refine ⟨g, o, rfl, by omega, fun i hi => ?_⟩
  rw [← hc i hi]
  unfold World.cell?
  simp only []
  rw [hb]
/-- The worlds of the reference's division: u and q are its own, v is read. -/
structure RW (wr w : World) (B gu Lu cu gv cv n gq : Nat) (v U Q : List Int) : Prop where
  ku : OwnK .u32 wr B 105 (some ⟨gu, 0, none⟩) Lu cu U
  kv : SlR .u32 wr (some ⟨gv, 0, none⟩) n cv v
  kq : KBlk .u32 wr gq 105 Q
  bel : Below w.heap.size w wr
section
variable {wr w : World} {B gu Lu cu gv cv n gq : Nat} {v U Q : List Int}
theorem RW.drewN (h : RW wr w B gu Lu cu gv cv n gq v U Q) (k : Nat) : RW (wr.drewN k) w B gu Lu cu gv cv n gq v U Q := ⟨h.ku, h.kv, h.kq, Below.drewN' h.bel k⟩
theorem RW.setU (h : RW wr w B gu Lu cu gv cv n gq v U Q) (n1 : gv ≠ gu) (n2 : gq ≠ gu) (hw : w.heap.size ≤ gu) (i : Nat) (x : Int) : RW (wr.setCell ⟨gu, i, none⟩ (.int .u32 x)) w B gu Lu cu gv cv n gq v (U.set i x) Q :=
  ⟨h.ku.set i x, h.kv.setCell _ (fun a ha => by injection ha with ha; subst ha; exact n1), h.kq.far (p := ⟨gu, i, none⟩) n2 _, h.bel.setCell (p := ⟨gu, i, none⟩) hw _⟩
theorem RW.setQ (h : RW wr w B gu Lu cu gv cv n gq v U Q) (n3 : gv ≠ gq) (n2 : gq ≠ gu) (hw : w.heap.size ≤ gq) (i : Nat) (x : Int) : RW (wr.setCell ⟨gq, i, none⟩ (.int .u32 x)) w B gu Lu cu gv cv n gq v U (Q.set i x) :=
  ⟨h.ku.far (p := ⟨gq, i, none⟩) _ (fun a ha => by injection ha with ha; subst ha; exact fun h => n2 h.symm), h.kv.setCell _ (fun a ha => by injection ha with ha; subst ha; exact n3), h.kq.set i x, h.bel.setCell (p := ⟨gq, i, none⟩) hw _⟩
theorem RW.ucell (h : RW wr w B gu Lu cu gv cv n gq v U Q) {i : Nat} (hi : i < Lu) : wr.cell? ⟨gu, i, none⟩ = some (.int .u32 (U[i]?.getD 0)) := h.ku.cell hi
theorem RW.vcell (h : RW wr w B gu Lu cu gv cv n gq v U Q) {i : Nat} (hi : i < n) : wr.cell? ⟨gv, i, none⟩ = some (.int .u32 (v[i]?.getD 0)) := by
  obtain ⟨b, o, e, _, hc⟩ := h.kv.pos hi
  cases e
  simpa using hc
end
end Go.Proofs.YtnedhbidmfoegaaGreat

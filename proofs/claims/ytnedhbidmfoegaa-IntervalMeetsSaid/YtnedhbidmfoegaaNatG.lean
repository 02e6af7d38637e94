/- Contracts of nat: lower. -/
import Derived.Test.YtnedhbidmfoegaaNatF
namespace Go.Proofs.Ytnedhbidmfoegaa
open Go.RowKit
set_option linter.unusedVariables false
namespace Nt
theorem val_drop {l : List Int} {i : Nat} (h : i < l.length) : val (l.drop i) = l[i]?.getD 0 + 4294967296 * val (l.drop (i + 1)) := by
  rw [List.drop_eq_getElem_cons h, val, List.getElem?_eq_getElem h]; rfl
theorem val_drop_set {l : List Int} {i : Nat} (x : Int) (h : i < l.length) : val ((l.set i x).drop i) = x + 4294967296 * val (l.drop (i + 1)) := by
  rw [val_drop (by simpa using h)]
  simp [h, List.drop_set]
theorem val_drop_all {l : List Int} {i : Nat} (h : l.length ≤ i) : val (l.drop i) = 0 := by rw [List.drop_of_length_le h]; rfl
theorem low_hi {x : Int} {s : Nat} (h : s < 32) (h0 : 0 ≤ x) (h1 : x < 4294967296) : 0 ≤ x * 2 ^ (32 - s) ∧ x * 2 ^ (32 - s) < 18446744073709551616 ∧ x * 2 ^ (32 - s) % 4294967296 = x % 2 ^ s * 2 ^ (32 - s) := by
  have hs := p2_split h
  have a0 := p2_pos s
  have a1 := p2_pos (32 - s)
  have a2 : (2 : Int) ^ (32 - s) ≤ 4294967296 := by
    have : 1 * (2 : Int) ^ (32 - s) ≤ 2 ^ s * 2 ^ (32 - s) := Int.mul_le_mul_of_nonneg_right (by omega) (by omega)
    omega
  have b0 : 0 ≤ x * 2 ^ (32 - s) := Int.mul_nonneg h0 (by omega)
  have b1 : x * 2 ^ (32 - s) ≤ 4294967295 * 2 ^ (32 - s) := Int.mul_le_mul_of_nonneg_right (by omega) (by omega)
  refine ⟨b0, by omega, ?_⟩
  rw [← hs, Int.mul_comm x, Int.mul_comm (2 ^ s), Int.mul_emod_mul_of_pos _ _ a1, Int.mul_comm]
theorem low_dig {x k : Int} {s : Nat} (h : s < 32) (h0 : 0 ≤ x) (h1 : x < 4294967296) (k0 : 0 ≤ k) (k1 : k < 2 ^ s) :
    0 ≤ x / 2 ^ s ∧ x / 2 ^ s < 4294967296 ∧ 0 ≤ k * 2 ^ (32 - s) ∧ k * 2 ^ (32 - s) < 4294967296 ∧ x / 2 ^ s + k * 2 ^ (32 - s) < 4294967296 ∧ bits .or .u32 (x / 2 ^ s) (k * 2 ^ (32 - s)) = x / 2 ^ s + k * 2 ^ (32 - s) := by
  have hs := p2_split h
  have a0 := p2_pos s
  have a1 := p2_pos (32 - s)
  have e := Int.mul_ediv_add_emod x (2 ^ s)
  have m0 := Int.emod_nonneg x (b := 2 ^ s) (by omega)
  have c0 : 0 ≤ x / 2 ^ s := Int.ediv_nonneg h0 (by omega)
  have c1 : x / 2 ^ s < 2 ^ (32 - s) := by
    apply Int.lt_of_mul_lt_mul_left (a := 2 ^ s) _ (by omega)
    rw [hs]; omega
  have d0 : 0 ≤ k * 2 ^ (32 - s) := Int.mul_nonneg k0 (by omega)
  have d1 : (k + 1) * 2 ^ (32 - s) ≤ 2 ^ s * 2 ^ (32 - s) := Int.mul_le_mul_of_nonneg_right (by omega) (by omega)
  rw [hs, Int.add_mul] at d1
  have c2 : (2 : Int) ^ (32 - s) ≤ 4294967296 := by omega
  have hj := bits_join .u32 32 (by decide) (fun n h0 h1 => by rw [IntKind.wrap_u32]; omega) (32 - s) (k * 2 ^ (32 - s)) (x / 2 ^ s) d0 (Int.mul_emod_left _ _) (by omega) c0 c1 (by omega)
  have hc : bits .or .u32 (x / 2 ^ s) (k * 2 ^ (32 - s)) = bits .or .u32 (k * 2 ^ (32 - s)) (x / 2 ^ s) := by simp only [bits, BitVec.or_comm]
  refine ⟨c0, by omega, d0, by omega, by omega, ?_⟩
  rw [hc, hj, Int.add_comm]
theorem low_step {S a : List Int} {i s : Nat} {k : Int} (h : s < 32) (hi : i < S.length) (hl : S.length = a.length) (hv : val (a.drop (i + 1)) = val (S.drop (i + 1)) * 2 ^ s + k) :
    val (a.drop i) = val ((S.set i (a[i]?.getD 0 / 2 ^ s + k * 2 ^ (32 - s))).drop i) * 2 ^ s + a[i]?.getD 0 % 2 ^ s := by
  rw [val_drop_set _ hi, val_drop (by omega), hv]
  have e := Int.mul_ediv_add_emod (a[i]?.getD 0) (2 ^ s)
  have hs := p2_split h
  generalize a[i]?.getD 0 / 2 ^ s = q at *
  generalize a[i]?.getD 0 % 2 ^ s = r at *
  generalize (2 : Int) ^ s = p at *
  generalize (2 : Int) ^ (32 - s) = z at *
  grind
end Nt

/-- What lower answers: a new list of n digits, a / 2^s. -/
def LowF (w0 w : World) (g n s : Nat) (a : List Int) : Prop := ∃ S, w0.heap.size ≤ g ∧ KBlk .u32 w g 82 S ∧ S.length = n ∧ Nt.Dig S ∧ Nt.val S = Nt.val a / 2 ^ s
set_option maxHeartbeats 2000000 in
theorem lower_any (A : Option Addr) (n c s : Nat) (a : List Int) (w : World) (ha : SlR .u32 w A n c a) (da : Nt.Dig a) (hn : n ≤ 1000000001) (hs : s < 32) :
    Calls Try.prog 135 #[.slice A n c, .int .u64 s] w fun e w' => ∃ g, e = .returned (.slice (some ⟨g, 0, none⟩) n n) ∧ LowF w w' g n s a ∧ Below w.heap.size w w' := by
  have hlen : Hid (a.length = n) := ha.1
  have Hda := Lib.hid da
  clear da
  go_enter Try.func135, Try.ntmps135
  go_wp2_with (at_make; refine wpList_makeK _ rfl (.tmp 9) (.tmp 9) _ rfl 82 .u32 4 Try.underlying22 u32_info _ _ _ _ n rfl rfl ?L ?C ?b2 ?b3 ?_)
  case L => rfl
  case C => rfl
  case b2 => omega
  case b3 => unfold maxLen; omega
  intro w2 hk2 hb2' hz2
  have hb2 : Below w.heap.size w w2 := hb2'
  obtain ⟨g, hg⟩ : ∃ g, g = w.heap.size := ⟨_, rfl⟩
  have hgw : w.heap.size ≤ g := by omega
  rw [← hg] at hk2 ⊢
  clear hz2 hg hb2'
  go_wp2
  go_loopw [6, 7] (fun cv iv wr => ∃ (i : Nat) (hi k : Int) (S : List Int), i ≤ n ∧ 0 ≤ hi ∧ hi < 4294967296 ∧ Hid (0 ≤ k) ∧ Hid (k < 2 ^ s) ∧ Hid (hi = k * 2 ^ (32 - s)) ∧ cv = .int .u32 hi ∧ iv = .int .i64 ((i : Int) - 1) ∧ KBlk .u32 wr g 82 S ∧ Hid (S.length = n) ∧ Hid (Nt.Dig S) ∧ Hid (Nt.val (a.drop i) = Nt.val (S.drop i) * 2 ^ s + k) ∧ Below w.heap.size w wr) (fun _ iv _ => (intOf iv + 1).toNat)
  case atStart => exact ⟨n, 0, 0, _, by omega, by omega, by omega, Int.le_refl _, Nt.p2_pos s, by simp [Hid], rfl, rfl, hk2, by simp [Hid], Nt.Dig.repl _, by have := hlen.out; show _ = _; rw [Nt.val_drop_all (by omega), Nt.val_drop_all (by simp)]; simp, hb2⟩
  case round =>
    obtain ⟨i, hi, k, S, hin, c0, c2, k0, k1, hk1, rfl, rfl, hk, hS, dS, hv, hbr⟩ := hrel
    clear hk2 hb2
    rcases i with _ | i
    · have hval : Nt.val S = Nt.val a / 2 ^ s := by
        have h1 := hv.out
        simp only [List.drop_zero] at h1
        rw [h1, Int.add_comm, Int.add_mul_ediv_right _ _ (by have := Nt.p2_pos s; omega), Int.ediv_eq_zero_of_lt k0.out k1.out]; simp
      have HF := Lib.hid hval
      clear hval
      go_wp2
      go_ret
      exact ⟨g, rfl, ⟨S, hgw, hk, hS.out, dS.out, HF.out⟩, hbr⟩
    · obtain ⟨b1, o1, rfl, hlt, _⟩ := ha.pos (i := i) (by omega)
      obtain ⟨b1', o1', he', _, hc1⟩ := (ha.below hbr).pos (i := i) (by omega)
      obtain ⟨rfl, rfl⟩ : b1 = b1' ∧ o1 = o1' := by cases he'; exact ⟨rfl, rfl⟩
      clear he'
      have q1 := Hda.out.at i
      have q1a := q1.1
      have q1b := q1.2
      have hc3 := hk.cell (i := i) (by have := hS.out; omega)
      have hf3 := hk.frozen i
      clear q1
      have hne : b1 ≠ g := by omega
      have Hor := Lib.hid (Nt.low_dig hs q1a q1b k0.out k1.out)
      have Hhi := Lib.hid (Nt.low_hi hs q1a q1b)
      have Hst := Lib.hid (Nt.low_step hs (by have := hS.out; omega) (by have := hS.out; have := hlen.out; omega) hv.out)
      have hin' : (i : Int) < n := by omega
      go_wp2
      go_roundw
      case rel =>
        have h1 := Hor.out
        have h2 := Hhi.out
        have h3 := Nt.p2_pos s
        have e1 : IntKind.u64.wrap (a[i]?.getD 0 * 2 ^ (32 - s)) % 4294967296 = a[i]?.getD 0 % 2 ^ s * 2 ^ (32 - s) := by rw [IntKind.wrap_u64]; omega
        have e2 := hk1.out
        subst e2
        rw [e1, h1.2.2.2.2.2]
        exact ⟨i, _, _, _, by omega, by omega, by omega, Int.emod_nonneg _ (by omega), Int.emod_lt_of_pos _ h3, rfl, rfl, rfl, hk.set i _, by have := hS.out; show _ = _; simpa using this, dS.out.set i (by omega), Hst.out, hbr.setCell (p := ⟨g, i, none⟩) hgw _⟩
      case measure => simp [intOf]
end Go.Proofs.Ytnedhbidmfoegaa

/- Contracts of nat: lift. -/
import Derived.Test.YtnedhbidmfoegaaGreatNatE
import Derived.Laws.BitsLemmas
namespace Go.Proofs.YtnedhbidmfoegaaGreat
open Go.RowKit
set_option linter.unusedVariables false
namespace Nt
theorem p2_pos (s : Nat) : (0 : Int) < 2 ^ s := Int.pow_pos (by decide)
theorem p2_le {s : Nat} (h : s < 32) : (2 : Int) ^ s ≤ 2147483648 := by
  have h1 : (2 : Nat) ^ s ≤ 2 ^ 31 := Nat.pow_le_pow_right (by omega) (by omega)
  have h2 : ((2 ^ s : Nat) : Int) ≤ ((2 ^ 31 : Nat) : Int) := Int.ofNat_le.2 h1
  simpa using h2
theorem p2_split {s : Nat} (h : s < 32) : (2 : Int) ^ s * 2 ^ (32 - s) = 4294967296 := by
  rw [← Int.pow_add, show s + (32 - s) = 32 by omega]; rfl
theorem mod_p2 {x : Int} {s : Nat} (h : s < 32) : (x * 2 ^ s) % 4294967296 % 2 ^ s = 0 := by
  rw [Int.emod_emod_of_dvd _ ⟨2 ^ (32 - s), (p2_split h).symm⟩]
  exact Int.mul_emod_left _ _
theorem or_lift {x lo : Int} {s : Nat} (h : s < 32) (h0 : 0 ≤ lo) (h1 : lo < 2 ^ s) : bits .or .u32 (x * 2 ^ s % 4294967296) lo = (x * 2 ^ s) % 4294967296 + lo := by
  have hp := p2_le h
  exact bits_join .u32 32 (by decide) (fun n h0 h1 => by rw [IntKind.wrap_u32]; omega) s _ _ (by omega) (mod_p2 h) (by omega) h0 h1 (by omega)
theorem hi_lift {x : Int} {s : Nat} (h : s < 32) (h0 : 0 ≤ x) (h1 : x < 4294967296) : 0 ≤ x * 2 ^ s ∧ x * 2 ^ s < 9223372036854775808 ∧ 0 ≤ x * 2 ^ s / 4294967296 ∧ x * 2 ^ s / 4294967296 < 2 ^ s := by
  have hp := p2_le h
  have hp0 := p2_pos s
  have a0 : 0 ≤ x * 2 ^ s := Int.mul_nonneg h0 (by omega)
  have a1 : x * 2 ^ s < 4294967296 * 2 ^ s := Int.mul_lt_mul_of_pos_right h1 hp0
  refine ⟨a0, by omega, by omega, ?_⟩
  omega
theorem dig_lift {x lo : Int} {s : Nat} (h : s < 32) (h0 : 0 ≤ lo) (h1 : lo < 2 ^ s) : 0 ≤ (x * 2 ^ s) % 4294967296 + lo ∧ (x * 2 ^ s) % 4294967296 + lo < 4294967296 := by
  have hm := mod_p2 (x := x) h
  have hs := p2_split h
  have hp0 := p2_pos s
  have hp1 := p2_pos (32 - s)
  generalize hy : (x * 2 ^ s) % 4294967296 = y at *
  have y0 : 0 ≤ y := by omega
  have y1 : y < 4294967296 := by omega
  refine ⟨by omega, ?_⟩
  have e := Int.mul_ediv_add_emod y (2 ^ s)
  rw [hm] at e
  generalize (2 : Int) ^ s = p at *
  generalize (2 : Int) ^ (32 - s) = q at *
  generalize y / p = z at *
  have hz : z < q := by
    apply Int.lt_of_mul_lt_mul_left (a := p) _ (by omega)
    omega
  have : p * (z + 1) ≤ p * q := Int.mul_le_mul_of_nonneg_left (by omega) (by omega)
  rw [Int.mul_add] at this
  omega
theorem lift_step {S a : List Int} {i : Nat} {lo p t : Int} (hi : i < S.length) (h : valTo S i + lo * pw i = valTo a i * p) (ht : t = a[i]?.getD 0 * p) :
    valTo (S.set i (t % 4294967296 + lo)) (i + 1) + (t / 4294967296) * pw (i + 1) = valTo a (i + 1) * p := by
  rw [valTo_set S _ hi, valTo_succ, pw]
  have e := Int.mul_ediv_add_emod t 4294967296
  generalize t % 4294967296 = r at *
  generalize t / 4294967296 = q at *
  grind
end Nt

/-- What lift answers: a new list of m digits, a times 2^s but for what went over. -/
def LiftF (w0 w : World) (g n m s : Nat) (a : List Int) : Prop := ∃ S lo, w0.heap.size ≤ g ∧ KBlk .u32 w g 105 S ∧ S.length = m ∧ Nt.Dig S ∧ 0 ≤ lo ∧ (m = n + 1 → lo = 0) ∧ Nt.val S + lo * Nt.pw n = Nt.val a * 2 ^ s
set_option maxHeartbeats 2000000 in
theorem lift_any (A : Option Addr) (n c s m : Nat) (a : List Int) (w : World) (ha : SlR .u32 w A n c a) (da : Nt.Dig a) (hn : n ≤ 1000000000) (hs : s < 32) (hm : m = n ∨ m = n + 1) :
    Calls Tryz.prog 208 #[.slice A n c, .int .u64 s, .int .i64 m] w fun e w' => ∃ g, e = .returned (.slice (some ⟨g, 0, none⟩) m m) ∧ LiftF w w' g n m s a ∧ Below w.heap.size w w' := by
  have hlen : Hid (a.length = n) := ha.1
  have Hda := Lib.hid da
  clear da
  have hm1 : n ≤ m ∧ m ≤ n + 1 := by omega
  have Hm := Lib.hid hm
  clear hm
  go_enter Tryz.func208, Tryz.ntmps208
  go_wp2_with (at_make; refine wpList_makeK _ rfl (.tmp 11) (.tmp 11) _ rfl 105 .u32 4 Tryz.underlying22 u32_info _ _ _ _ m rfl rfl ?L ?C ?b2 ?b3 ?_)
  case L => rfl
  case C => rfl
  case b2 => omega
  case b3 => unfold maxLen; omega
  intro w2 hk2 hb2' hz2
  have hb2 : Below w.heap.size w w2 := hb2'
  obtain ⟨g, hg⟩ : ∃ g, g = w.heap.size := ⟨_, rfl⟩
  have hgw : w.heap.size ≤ g := by omega
  rw [← hg] at hk2 ⊢
  clear hz2 hg hb2'
  go_wp2
  go_loopw [8, 15] (fun cv iv wr => ∃ (i : Nat) (lo : Int) (S : List Int), i ≤ n ∧ 0 ≤ lo ∧ Hid (lo < 2 ^ s) ∧ lo < 4294967296 ∧ cv = .int .u32 lo ∧ iv = .int .i64 i ∧ KBlk .u32 wr g 105 S ∧ Hid (S.length = m) ∧ Hid (Nt.Dig S) ∧ Hid (Nt.valTo S i + lo * Nt.pw i = Nt.valTo a i * 2 ^ s) ∧ Below w.heap.size w wr) (fun _ iv _ => n - (intOf iv).toNat)
  case atStart => exact ⟨0, 0, _, by omega, by omega, Nt.p2_pos s, by omega, rfl, rfl, hk2, by simp [Hid], Nt.Dig.repl _, by simp [Hid, Nt.valTo_zero], hb2⟩
  case round =>
    obtain ⟨i, lo, S, hi, c0, c1, c2, rfl, rfl, hk, hS, dS, hv, hbr⟩ := hrel
    clear hk2 hb2
    by_cases hin : i < n
    · obtain ⟨b1, o1, rfl, _, hc1⟩ := (ha.below hbr).pos hin
      have q1 := Hda.out.at i
      have q1a := q1.1
      have q1b := q1.2
      have hc3 := hk.cell (i := i) (by have := hS.out; omega)
      have hf3 := hk.frozen i
      clear q1
      have Hor := Lib.hid (Nt.or_lift (x := a[i]?.getD 0) hs c0 c1.out)
      have Hdi := Lib.hid (Nt.dig_lift (x := a[i]?.getD 0) hs c0 c1.out)
      have Hhi := Lib.hid (Nt.hi_lift hs q1a q1b)
      have Hst := Lib.hid (Nt.lift_step (p := 2 ^ s) (t := a[i]?.getD 0 * 2 ^ s) (by have := hS.out; omega) hv.out rfl)
      go_wp2
      go_roundw
      case rel =>
        have h1 := Hhi.out
        have h2 := Nt.p2_le hs
        have e1 : IntKind.u64.wrap (a[i]?.getD 0 * 2 ^ s) / 4294967296 % 4294967296 = a[i]?.getD 0 * 2 ^ s / 4294967296 := by rw [IntKind.wrap_u64]; omega
        rw [e1, Hor.out]
        exact ⟨i + 1, _, _, by omega, h1.2.2.1, h1.2.2.2, by omega, rfl, by go_num, hk.set i _, by have := hS.out; show _ = _; simpa using this, dS.out.set i Hdi.out, Hst.out, hbr.setCell (p := ⟨g, i, none⟩) hgw _⟩
      case measure => simp [intOf]; omega
    · obtain rfl : i = n := by omega
      rcases Hm.out with hm | hm
      · subst hm
        have hval : Nt.val S + lo * Nt.pw m = Nt.val a * 2 ^ s := by
          have h1 := hv.out
          rw [Nt.valTo_all S (by have := hS.out; omega), Nt.valTo_all a (by have := hlen.out; omega)] at h1
          exact h1
        have HF := Lib.hid hval
        clear hval
        go_wp2
        go_ret
        exact ⟨g, rfl, ⟨S, lo, hgw, hk, hS.out, dS.out, c0, fun h => by omega, HF.out⟩, hbr⟩
      · subst hm
        have hc3 := hk.cell (i := i) (by have := hS.out; omega)
        have hf3 := hk.frozen i
        have hval : Nt.val (S.set i lo) + 0 * Nt.pw i = Nt.val a * 2 ^ s := by
          have h1 := hv.out
          rw [Nt.valTo_all a (by have := hlen.out; omega)] at h1
          rw [← Nt.valTo_all (S.set i lo) (n := i + 1) (by have := hS.out; simp; omega), Nt.valTo_set S _ (by have := hS.out; omega), ← h1, Int.mul_comm (Nt.pw i)]
          simp
        have HF := Lib.hid hval
        clear hval
        go_wp2
        go_ret
        exact ⟨g, rfl, ⟨S.set i lo, 0, hgw, hk.set i lo, by have := hS.out; simpa using this, dS.out.set i ⟨c0, c2⟩, by omega, fun _ => rfl, HF.out⟩, hbr.setCell (p := ⟨g, i, none⟩) hgw _⟩
end Go.Proofs.YtnedhbidmfoegaaGreat

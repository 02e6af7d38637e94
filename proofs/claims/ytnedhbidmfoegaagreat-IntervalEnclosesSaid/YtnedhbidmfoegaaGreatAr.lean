/- From the reading of an argument to the words of the walks. -/
import Derived.Test.YtnedhbidmfoegaaGreatQ
import Derived.Test.YtnedhbidmfoegaaGreatProg
import Derived.OpenShut
import Derived.ChangeSlices
import Derived.Deep.Slices
import Derived.KernelRfl
namespace Go.Proofs.YtnedhbidmfoegaaGreat
open Go.RowKit Go.ChangeShapes Go.WideShapes
set_option linter.unusedVariables false
section
variable {H : Type} {enc : TypeId × Value → H} {P : Program} {w : World} {base : Nat} {spare : Nat → Bool} {held : Bool} {fuel : Nat} {cs : List Value} {x : DataW H × List MemPlace}
theorem ar_slr {k : IntKind} {t e : TypeId} (ht : P.underlying t = some (.slice e)) (he : P.underlying e = some (.int k)) (hc : P.cellsOf e = 1) (h : DataW.trod enc P w base spare held fuel t cs = some x) :
    ∃ (s : Sl) (l : List Int), cs = [s.v] ∧ SlR k w s.a s.n s.c l ∧ ∀ z ∈ l, (Lit.int k z).wf = true := by
  rcases open_ints ht he hc h with ⟨rfl, _⟩ | ⟨a, len, cap, zs, rfl, _, hl, hm, hz, _, hcell, hwz⟩
  · exact ⟨⟨none, 0, 0⟩, [], rfl, SlR.nil w none 0 (Nat.zero_le _), (fun z h => by cases h)⟩
  · have hle : len ≤ zs.length := by rw [hz]; split <;> omega
    refine ⟨⟨some a, len, cap⟩, zs.take len, rfl, ⟨by simp; omega, hl, hm, fun hp => ?_⟩, fun z hz' => hwz z (List.mem_of_mem_take hz')⟩
    have hp : 0 < len := hp
    obtain ⟨b, o, sp⟩ := a
    have h0 := hcell 0 (by omega)
    have hsp : sp = none := by simpa [Addr.add] using World.cell?_spot h0
    subst hsp
    refine ⟨b, o, rfl, ?_, fun i hi => ?_⟩
    · have := block_lt_of_cell h0
      simpa [Addr.add] using this
    · have hi : i < len := hi
      have := hcell i (by omega)
      rw [show (⟨b, o, none⟩ : Addr).add i = ⟨b, o + i, none⟩ by unfold Addr.add; split <;> simp_all] at this
      rw [this, List.getElem?_take_of_lt hi]
      simp
theorem wf_u32 {z : Int} (h : (Lit.int .u32 z).wf = true) : 0 ≤ z ∧ z < 4294967296 := by
  simp [Lit.wf, IntKind.min, IntKind.max, IntKind.bits, IntKind.signed] at h
  omega
theorem wf_i64 {z : Int} (h : (Lit.int .i64 z).wf = true) : -9223372036854775808 ≤ z ∧ z ≤ 9223372036854775807 := by
  simp [Lit.wf, IntKind.min, IntKind.max, IntKind.bits, IntKind.signed] at h
  omega
theorem dig_of {l : List Int} (h : ∀ z ∈ l, 0 ≤ z ∧ z < 4294967296) : Nt.Dig l := by
  induction l with
  | nil => exact Nt.Dig.nil
  | cons z l ih => exact Nt.Dig.cons (h z (List.mem_cons_self ..)) (ih fun y hy => h y (List.mem_cons_of_mem _ hy))
theorem ar_nat (h : DataW.trod enc Tryz.prog w base spare held fuel 22 cs = some x) : ∃ (s : Sl) (N : Nat), cs = [s.v] ∧ NatV w s N s.n := by
  obtain ⟨s, l, h1, h2, h3⟩ := ar_slr (k := .u32) (e := 105) (by kernel_rfl) (by kernel_rfl) (by kernel_rfl) h
  have hd := dig_of (fun z hz => wf_u32 (h3 z hz))
  exact ⟨s, (Nt.val l).toNat, h1, l, h2, hd, Nat.le_refl _, by have := Nt.val_nonneg hd; omega⟩
theorem two_of {α : Type} {xs : List α} (h : xs.length = 2) : ∃ a b, xs = [a, b] := by
  match xs, h with
  | [a, b], _ => exact ⟨a, b, rfl⟩
theorem ar_int (h : DataW.trod enc Tryz.prog w base spare held fuel 24 cs = some x) : ∃ (i : IL) (z : Int) (K : Nat), cs = i.cs ∧ IntV w i z K := by
  obtain ⟨xs, n, _, _, hlen, hxs, hf⟩ := DataW.trod_struct Tryz.underlying24 h
  have hlen : cs.length = 2 := hlen.trans (by kernel_rfl)
  obtain ⟨c0, c1, rfl⟩ := two_of hlen
  obtain ⟨y0, y1, rfl⟩ := two_of (hxs.trans rfl)
  have h0 : DataW.trod enc Tryz.prog w base spare held n 4 [c0] = some y0 := by
    have e : Tryz.prog.cellsOf 4 = 1 := by kernel_rfl
    simpa [e] using hf 0 _ rfl
  have h1 : DataW.trod enc Tryz.prog w base spare held n 22 [c1] = some y1 := by
    have e : Tryz.prog.cellsOf 22 = 1 := by kernel_rfl
    simpa [e] using hf 1 _ rfl
  obtain ⟨b, hb, _⟩ := DataW.trod_bool Tryz.underlying4 h0
  obtain ⟨s, N, hs, hN⟩ := ar_nat h1
  simp only [List.cons.injEq, and_true] at hb hs
  subst hb hs
  exact ⟨⟨b, s⟩, Nt.sg b N, s.n, rfl, N, hN, rfl⟩
theorem ar_rat (h : DataW.trod enc Tryz.prog w base spare held fuel 26 cs = some x) : ∃ (r : RL) (q : Rat) (K : Nat), cs = r.cs ∧ RatV w r q K := by
  obtain ⟨xs, n, _, _, hlen, hxs, hf⟩ := DataW.trod_struct Tryz.underlying26 h
  have hlen : cs.length = 3 := hlen.trans (by kernel_rfl)
  obtain ⟨y0, y1, rfl⟩ := two_of (hxs.trans rfl)
  have h0 : DataW.trod enc Tryz.prog w base spare held n 24 (cs.take 2) = some y0 := by
    have e : Tryz.prog.cellsOf 24 = 2 := by kernel_rfl
    simpa [e] using hf 0 _ rfl
  have h1 : DataW.trod enc Tryz.prog w base spare held n 22 ((cs.drop 2).take 1) = some y1 := by
    have e : Tryz.prog.cellsOf 22 = 1 := by kernel_rfl
    simpa [e] using hf 1 _ rfl
  obtain ⟨i, z, K, hi, hz⟩ := ar_int h0
  obtain ⟨s, N, hs, hN⟩ := ar_nat h1
  refine ⟨⟨i.s, i.m, s⟩, mkRat z N, max (max K s.n) 1, ?_, rat_mk2 (s := i.s) hz hN⟩
  rw [show cs = cs.take 2 ++ (cs.drop 2).take 1 by rw [List.take_of_length_le (i := 1) (by simp; omega), List.take_append_drop], hi, hs]
  rfl
theorem ar_itv (h : DataW.trod enc Tryz.prog w base spare held fuel 28 cs = some x) : ∃ (a b : RL) (p q : Rat) (K : Nat), cs = a.cs ++ b.cs ∧ RatV w a p K ∧ RatV w b q K := by
  obtain ⟨xs, n, _, _, hlen, hxs, hf⟩ := DataW.trod_struct Tryz.underlying28 h
  have hlen : cs.length = 6 := hlen.trans (by kernel_rfl)
  obtain ⟨y0, y1, rfl⟩ := two_of (hxs.trans rfl)
  have e : Tryz.prog.cellsOf 26 = 3 := by kernel_rfl
  have h0 : DataW.trod enc Tryz.prog w base spare held n 26 (cs.take 3) = some y0 := by simpa [e] using hf 0 _ rfl
  have h1 : DataW.trod enc Tryz.prog w base spare held n 26 ((cs.drop 3).take 3) = some y1 := by simpa [e] using hf 1 _ rfl
  obtain ⟨a, p, K, ha, hp⟩ := ar_rat h0
  obtain ⟨b, q, L, hb, hq⟩ := ar_rat h1
  refine ⟨a, b, p, q, max K L, ?_, hp.more (Nat.le_max_left _ _), hq.more (Nat.le_max_right _ _)⟩
  rw [show cs = cs.take 3 ++ (cs.drop 3).take 3 by rw [List.take_of_length_le (i := 3) (l := cs.drop 3) (by simp; omega), List.take_append_drop], ha, hb]
section
variable {r0 : Reach} {b0 : Nat} {v : Value} {d : DataW H} {p : List MemPlace}
set_option maxRecDepth 100000 in
theorem ar_ratv (hv : Value.okWide Tryz.prog w r0 b0 26 v) (h : DataW.Trod enc Tryz.prog w base spare held 26 v d p) : ∃ (r : RL) (q : Rat) (K : Nat), v = r.v ∧ RatV w r q K := by
  obtain ⟨cs, rfl, hsz⟩ := okWide_struct Tryz.underlying26 hv
  obtain ⟨fuel, hf⟩ := h
  obtain ⟨r, q, K, hc, hr⟩ := ar_rat hf
  refine ⟨r, q, K, ?_, hr⟩
  have hc : cs.toList = r.cs := hc
  show Value.agg cs = .agg r.cs.toArray
  rw [← hc]
set_option maxRecDepth 100000 in
theorem ar_itvv (hv : Value.okWide Tryz.prog w r0 b0 28 v) (h : DataW.Trod enc Tryz.prog w base spare held 28 v d p) : ∃ (a b : RL) (x y : Rat) (K : Nat), v = .agg (a.cs ++ b.cs).toArray ∧ RatV w a x K ∧ RatV w b y K := by
  obtain ⟨cs, rfl, hsz⟩ := okWide_struct Tryz.underlying28 hv
  obtain ⟨fuel, hf⟩ := h
  obtain ⟨a, b, x, y, K, hc, h1, h2⟩ := ar_itv hf
  refine ⟨a, b, x, y, K, ?_, h1, h2⟩
  have hc : cs.toList = a.cs ++ b.cs := hc
  rw [← hc]
end
end
end Go.Proofs.YtnedhbidmfoegaaGreat

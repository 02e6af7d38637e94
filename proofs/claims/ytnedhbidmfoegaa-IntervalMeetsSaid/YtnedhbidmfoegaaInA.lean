/- Symbolic walks: data worlds, symbolic states, and regions in whatever order. No program in sight. Symbolic walks: what an operation does; regions in the order of the text and in whatever order. Symbolic walks: one step is sound. Symbolic walks: one operation, carried out. Symbolic walks: operations may change places. Symbolic walks: regions in whatever order. Symbolic walks: a region in whatever order; a region in the order of its text. Symbolic walks: code. Symbolic walks: the rules by which a walk is printed. Symbolic walks: rules for data: an element's address, loads. Symbolic walks: loops whose rounds are counted; cuts. Contracts of the reference of nat: Mul, small. How values read in data worlds; the contracts of nat and of its reference in these words. Printed by wip/sym/mkvl.py. Plain laws of rationals and their sizes; how rationals read. From the reading of an argument to the words of the walks. Plain laws for the reference of integers and rationals. The sizes of the types. Printed by wip/sym/g_ty.py. Contracts of the references of integer and rational. Printed by wip/sym/g_ref.py. Contracts of the reference of rational. Printed by wip/sym/g_rq.py. Plain laws of intervals of rationals; a copied list of digits. Contracts of interval. Printed by wip/sym/g_itv.py. Contracts of the reference of interval, of small functions. Printed by wip/sym/g_r4.py. Plain laws: larger intervals have larger results; common numbers. -/
import Derived.Test.YtnedhbidmfoegaaDvD
import Derived.Orders
import Derived.KernelRfl
import Derived.LoopN
import Derived.IntWalk
import Derived.Test.YtnedhbidmfoegaaProg
import Derived.OpenShut
import Derived.ChangeSlices
import Derived.Deep.Slices
namespace Go.Proofs.Ytnedhbidmfoegaa
open Go.RowKit
set_option linter.unusedVariables false

section
variable {u u' u'' w w' : World}
end

end Go.Proofs.Ytnedhbidmfoegaa
namespace Go.Proofs.Ytnedhbidmfoegaa
open Go.RowKit
set_option linter.unusedVariables false
section
variable (P : Program) (ops : Array Oper) (w0 : Base) (u0 : World)
end

section
variable {P : Program} {ops : Array Oper} {w0 : Base} {u0 : World}
end
end Go.Proofs.Ytnedhbidmfoegaa
namespace Go.Proofs.Ytnedhbidmfoegaa
open Go.RowKit
set_option linter.unusedVariables false
section
variable {P : Program} {ops : Array Oper} {w0 : Base} {u0 : World} {S : St} {B : Tmp → Nat} {a : Act} {w u : World} {o : Oper}
end
end Go.Proofs.Ytnedhbidmfoegaa
namespace Go.Proofs.Ytnedhbidmfoegaa
open Go.RowKit
set_option linter.unusedVariables false
section
variable {P : Program} {ops : Array Oper} {w0 : Base} {u0 : World} {S : St} {B : Tmp → Nat} {a : Act} {w u u' : World} {o : Oper}
end
end Go.Proofs.Ytnedhbidmfoegaa
namespace Go.Proofs.Ytnedhbidmfoegaa
open Go.RowKit
set_option linter.unusedVariables false
section
variable {P : Program} {ops : Array Oper} {w0 : Base} {u0 : World} {S : St} {B : Tmp → Nat} {a : Act} {w u u' : World} {o x y : Oper}
end
end Go.Proofs.Ytnedhbidmfoegaa
namespace Go.Proofs.Ytnedhbidmfoegaa
open Go.RowKit
set_option linter.unusedVariables false
section
variable {P : Program} {ops : Array Oper} {w0 : Base} {u0 : World} {S : St} {B : Tmp → Nat} {a : Act} {w u u' : World} {o x y : Oper}
end
end Go.Proofs.Ytnedhbidmfoegaa
namespace Go.Proofs.Ytnedhbidmfoegaa
open Go.RowKit
set_option linter.unusedVariables false
section
variable {P : Program} {ops : Array Oper} {w0 : Base} {u0 : World} {S : St} {B : Tmp → Nat} {a : Act} {w u u' : World}
end
end Go.Proofs.Ytnedhbidmfoegaa
namespace Go.Proofs.Ytnedhbidmfoegaa
open Go.RowKit
set_option linter.unusedVariables false
section
variable (P : Program) (w0 : Base) (u0 : World)
end
section
variable {P : Program} {w0 : Base} {u0 : World} {S T : St} {B : Tmp → Nat} {a : Act} {w u u' : World} {Q : MP} {c d : Code}
end
end Go.Proofs.Ytnedhbidmfoegaa
namespace Go.Proofs.Ytnedhbidmfoegaa
open Go.RowKit
set_option linter.unusedVariables false
section
variable {P : Program} {ops : Array Oper} {w0 : Base} {u0 : World} {S T : St} {B : Tmp → Nat} {a : Act} {w u u' : World} {o : Oper} {p : List Tmp} {seq : Bool} {rest : List (Oper × List Tmp)} {K : St → World → Prop}
end
end Go.Proofs.Ytnedhbidmfoegaa
namespace Go.Proofs.Ytnedhbidmfoegaa
open Go.RowKit
set_option linter.unusedVariables false
section
variable {P : Program} {ops : Array Oper} {w0 : Base} {u0 : World} {S T : St} {B : Tmp → Nat} {a : Act} {w u u' : World} {o : Oper} {p : List Tmp} {seq : Bool} {rest : List (Oper × List Tmp)} {K : St → World → Prop}
end
end Go.Proofs.Ytnedhbidmfoegaa
namespace Go.Proofs.Ytnedhbidmfoegaa
open Go.RowKit
set_option linter.unusedVariables false
section
variable (P : Program) (w0 : Base) (u0 : World)
/-- Behind a round: R. -/
def MP.rnd (R : St → World → Prop) (hR : Mono R) (Q : MP) : MP where
  f e S u := match e with | .normal => R S u | e => Q.f e S u
  mono e := by cases e <;> first | exact hR | exact Q.mono _
/-- At most n rounds are left. -/
def Rnds (c : Code) (Q : MP) : Nat → { R : St → World → Prop // Mono R }
  | 0 => ⟨fun _ _ => False, fun _ _ _ _ h => h⟩
  | n + 1 => ⟨fun S u => SW P w0 u0 c S u (MP.rnd (Rnds c Q n).1 (Rnds c Q n).2 Q), SW.mono P w0 u0 c _⟩
/-- What stands behind a round of which n are left. -/
def MP.rn (c : Code) (Q : MP) (n : Nat) : MP := MP.rnd (Rnds P w0 u0 c Q n).1 (Rnds P w0 u0 c Q n).2 Q
end
section
variable {P : Program} {w0 : Base} {u0 : World} {S T : St} {B : Tmp → Nat} {a : Act} {w u u' : World} {Q : MP} {c d : Code}
theorem sw_rounds (n : Nat) (h : SW P w0 u0 c S u (MP.rn P w0 u0 c Q n)) : SW P w0 u0 (.loop c) S u Q := by
  have key : ∀ n S u, (Rnds P w0 u0 c Q n).1 S u → ∀ B a w u1, Ext u u1 → Rep w0 u0 S B a w u1 → Code.rounds P c (fun e a' w' => ∃ S' B' u'', Rep w0 u0 S' B' a' w' u'' ∧ Q.f e S' u'') n a w := by
    intro n
    induction n with
    | zero => intro S u h; exact h.elim
    | succ n ih =>
      intro S u h B a w u1 e1 hr
      refine wp_mono (h B a w u1 e1 hr) fun ex a' w' ⟨S', B', u'', k1, k3⟩ => ?_
      cases ex with
      | normal => exact ih S' u'' k3 B' a' w' u'' (Ext.refl _) k1
      | _ => exact ⟨S', B', u'', k1, k3⟩
  intro B a w u' e hr
  exact wp_loop_rounds (n + 1) (key (n + 1) S u h B a w u' e hr)
/-- The next round. -/
theorem rn_next {n : Nat} (h : SW P w0 u0 c S u (MP.rn P w0 u0 c Q n)) : (MP.rn P w0 u0 c Q (n + 1)).f .normal S u := h
section
variable {ops : Array Oper} {o : Oper} {p : List Tmp} {seq : Bool} {rest : List (Oper × List Tmp)} {K : St → World → Prop}
end
end
end Go.Proofs.Ytnedhbidmfoegaa
namespace Go.Proofs.Ytnedhbidmfoegaa
open Go.RowKit
set_option linter.unusedVariables false
set_option maxHeartbeats 2000000 in
theorem rMul_any (A B : Option Addr) (n c m d : Nat) (a b : List Int) (w : World) (ha : SlR .u32 w A n c a) (hb : SlR .u32 w B m d b) (da : Nt.Dig a) (db : Nt.Dig b) (hn : n ≤ 1000000000) (hm : m ≤ 1000000000) :
    Calls Try.prog 105 #[.slice A n c, .slice B m d] w fun e w' => ∃ A' n' c', e = .returned (.slice A' n' c') ∧ NatF w w' A' n' c' (Nt.val a * Nt.val b).toNat ∧ Below w.heap.size w w' := by
  have hla := Lib.hid ha.1
  have hlb := Lib.hid hb.1
  have Hda := Lib.hid da
  have Hdb := Lib.hid db
  clear da db
  go_enter Try.func105, Try.ntmps105
  go_wp2_with (at_make; refine wpList_makeK _ rfl (.tmp 14) (.tmp 14) _ rfl 82 .u32 4 Try.underlying22 u32_info _ _ _ _ (n + m + 1) rfl rfl ?L ?C ?b2 ?b3 ?_)
  case L => show _ = _; omega
  case C => show _ = _; omega
  case b2 => omega
  case b3 => unfold maxLen; omega
  intro w2 hk2 hb2' hz2
  have hb2 : Below w.heap.size w w2 := hb2'
  obtain ⟨g, hg⟩ : ∃ g, g = w.heap.size := ⟨_, rfl⟩
  have hgw : w.heap.size ≤ g := by omega
  rw [← hg] at hk2 ⊢
  clear hz2 hg hb2'
  go_wp2
  go_loopw [6] (fun iv wr => ∃ (i : Nat) (S : List Int), i ≤ n ∧ iv = .int .i64 i ∧ KBlk .u32 wr g 82 S ∧ Hid (S.length = n + m + 1) ∧ Hid (Nt.Dig S) ∧ Hid (Nt.valTo S (i + m) = Nt.valTo a i * Nt.val b) ∧ Hid (∀ k, i + m ≤ k → S[k]?.getD 0 = 0) ∧ Below w.heap.size w wr) (fun iv _ => n - (intOf iv).toNat)
  case atStart => exact ⟨0, _, by omega, rfl, hk2, by simp [Hid], Nt.Dig.repl _, by show _ = _; rw [Nt.valTo_zero, Int.zero_mul]; unfold Nt.valTo; rw [List.take_replicate, Nt.val_repl], fun k _ => by simp only [List.getElem?_replicate]; split <;> rfl, hb2⟩
  case round =>
    obtain ⟨i, S, hi, rfl, hk, hS, dS, hv, hz, hbr⟩ := hrel
    clear hk2 hb2
    by_cases hin : i < n
    · have q1 := Hda.out.at i
      have hin' : (i : Int) < n := by omega
      obtain ⟨xi, hxi⟩ : ∃ xi, xi = a[i]?.getD 0 := ⟨_, rfl⟩
      rw [← hxi] at q1
      have Hxi := Lib.hid hxi
      clear hxi
      go_wp2
      obtain ⟨wo, rfl⟩ : ∃ wo : World, wo = wr := ⟨_, rfl⟩
      go_loopw [7, 8] (fun cv jv wr => ∃ (j : Nat) (cy : Int) (T : List Int), j ≤ m ∧ 0 ≤ cy ∧ cy ≤ 4294967295 ∧ cv = .int .u64 cy ∧ jv = .int .i64 j ∧ KBlk .u32 wr g 82 T ∧ Hid (T.length = n + m + 1) ∧ Hid (Nt.Dig T) ∧ Hid (Nt.valTo T (i + j) + cy * Nt.pw (i + j) = Nt.valTo S (i + j) + xi * (Nt.pw i * Nt.valTo b j)) ∧ Hid (∀ k, i + j ≤ k → T[k]?.getD 0 = S[k]?.getD 0) ∧ Below w.heap.size w wr) (fun _ jv _ => m - (intOf jv).toNat)
      case atStart => exact ⟨0, 0, S, by omega, by omega, by omega, rfl, rfl, hk, hS, dS, by simp [Hid, Nt.valTo_zero], fun k _ => rfl, hbr⟩
      case round =>
        obtain ⟨j, cy, T, hj, c0, c1, rfl, rfl, hk, hT, dT, hw, hsame, hbr⟩ := hrel
        by_cases hjY : j < m
        · obtain ⟨b1, o1, rfl, _, hc1⟩ := (ha.below hbr).pos hin
          obtain ⟨b2, o2, rfl, _, hc2⟩ := (hb.below hbr).pos hjY
          rw [← Hxi.out] at hc1
          have q2 := Hdb.out.at j
          have q3 := dT.out.at (i + j)
          have hc3 := hk.cell (i := i + j) (by have := hT.out; omega)
          have q4 := Nt.mul_bd32 q1 q2
          obtain ⟨yj, hyj⟩ : ∃ yj, yj = b[j]?.getD 0 := ⟨_, rfl⟩
          obtain ⟨tj, htj⟩ : ∃ tj, tj = T[i + j]?.getD 0 := ⟨_, rfl⟩
          have Hst := Lib.hid (Nt.mul_step (t := cy + (xi * yj + tj)) (by have := hT.out; omega) hw.out (hsame.out _ (Nat.le_refl _)) (by rw [hyj, htj]; omega))
          rw [← hyj] at hc2 q2 q4
          rw [← htj] at hc3 q3
          have q4a := q4.1
          have q4b := q4.2
          have hjm : (j : Int) < m := by omega
          have hw1 : (i : Int) + (j : Int) < n + m + 1 := by omega
          have hkd : Hid (∀ k, KBlk .u32 (wr.drewN k) g 82 T) := fun k => hk
          have hbd : Hid (∀ k, Below w.heap.size w (wr.drewN k)) := fun k => Below.drewN' hbr k
          clear q4 hyj htj hw
          go_wp2
          go_quiet (fail)
          have hk' := hkd.out nq
          have hbr' := Lib.hid (hbd.out nq)
          generalize wr.drewN nq = wq at *
          have hc3' := hk'.cell (i := i + j) (by have := hT.out; omega)
          have hf3 := hk'.frozen (i + j)
          clear hc1 hc2 hc3 hkd hbd hk hbr
          go_wp2
          go_roundw
          case rel => exact ⟨j + 1, _, _, by omega, by omega, by omega, rfl, by go_num, hk'.set (i + j) _, by have := hT.out; show _ = _; simpa using this, dT.out.set (i + j) (by omega), Hst.out, fun k hk' => by rw [List.getElem?_set_ne (by omega)]; exact hsame.out k (by omega), hbr'.out.setCell (p := ⟨g, i + j, none⟩) hgw _⟩
          case measure => simp [intOf]; omega
        · obtain rfl : j = m := by omega
          have hc3 := hk.cell (i := i + j) (by have := hT.out; omega)
          have hf3 := hk.frozen (i + j)
          have hv' : Hid (Nt.valTo (T.set (i + j) cy) (i + 1 + j) = Nt.valTo a (i + 1) * Nt.val b) := by
            have h1 := hw.out
            have h2 := hv.out
            have h3 := Hxi.out
            show _ = _
            rw [show i + 1 + j = i + j + 1 by omega, Nt.valTo_set T cy (by have := hT.out; omega), Nt.valTo_succ, ← h3]
            rw [Nt.valTo_all b (by have := hlb.out; omega)] at h1
            grind
          have hz' : Hid (∀ k, i + 1 + j ≤ k → (T.set (i + j) cy)[k]?.getD 0 = 0) := fun k hk' => by
            rw [List.getElem?_set_ne (by omega), hsame.out k (by omega)]
            exact hz.out k (by omega)
          clear hv hz hw hsame
          go_wp2
          go_roundw
          case rel => exact ⟨i + 1, _, by omega, by go_num, hk.set (i + j) _, by have := hT.out; show _ = _; simpa using this, dT.out.set (i + j) (by omega), hv', hz', hbr.setCell (p := ⟨g, i + j, none⟩) hgw _⟩
          case measure => simp [intOf]; omega
    · obtain rfl : i = n := by omega
      have hval : Nt.val S = Nt.val a * Nt.val b := by
        have h1 := hv.out
        have h2 := hz.out (i + m) (Nat.le_refl _)
        rw [← Nt.valTo_all S (n := i + m + 1) (by have := hS.out; omega), Nt.valTo_succ, h1, h2, Nt.valTo_all a (by have := hla.out; omega)]; simp
      have Hval := Lib.hid hval
      have Hsl := Lib.hid (hk.slr_all (n := i + m + 1) (c := i + m + 1) hS.out (by omega) (by unfold maxLen; omega))
      clear hval hk
      go_wp2_with fail
      refine (rTrim_any _ _ _ _ _ Hsl.out dS.out (by omega)).mono ?_
      rintro e w4 ⟨A3, n3, c3, rfl, f3, hb4⟩
      have hf := f3.nat
      rw [Hval.out] at hf
      have HF := Lib.hid hf
      clear f3 hf
      go_wp2
      go_ret
      exact ⟨A3, n3, c3, rfl, HF.out.mono hbr.size, hbr.trans (hb4.mono hbr.size)⟩
end Go.Proofs.Ytnedhbidmfoegaa
namespace Go.Proofs.Ytnedhbidmfoegaa
open Go.RowKit
set_option linter.unusedVariables false
namespace Nt
theorem cmp_self_sub (x y : Int) : cmpS (x - y) 0 = cmpS x y := by
  unfold cmpS
  rcases Int.lt_trichotomy x y with h | h | h
  · rw [if_pos (by omega), if_pos h]
  · rw [if_neg (by omega), if_pos (by omega), if_neg (by omega), if_pos h]
  · rw [if_neg (by omega), if_neg (by omega), if_neg (by omega), if_neg (by omega)]
end Nt
section
variable {u u' w w' : World} {x y : Sl} {i j : IL} {r : RL} {N M K L : Nat} {z z' : Int} {q : Rat}
theorem k_rnMul (d : Dat u w) (h1 : NatV u x N K) (h2 : NatV u y M L) (hK : K ≤ 500000000) (hL : L ≤ 500000000) : Calls Try.prog 105 #[x.v, y.v] w (Post u w fun v u' => ∃ x : Sl, v = x.v ∧ NatN u' x (N * M) (K + L)) := by
  have hs1 := h1.size
  have hs2 := h2.size
  obtain ⟨a, a1, a2, a3, a4⟩ := h1
  obtain ⟨b, b1, b2, b3, b4⟩ := h2
  refine (rMul_any _ _ _ _ _ _ _ _ _ (a1.ext d.ext) (b1.ext d.ext) a2 b2 (by omega) (by omega)).mono fun e w' ⟨A', n', c', h⟩ => ?_
  rw [a4, b4] at h
  exact post_nat d (nat_fits h (Int.natCast_mul N M).symm) (by have := Nt.dl_mul N M; omega)
theorem k_rnCompare (d : Dat u w) (h1 : NatV u x N K) (h2 : NatV u y M L) (hK : K ≤ 500000000) (hL : L ≤ 500000000) : Calls Try.prog 103 #[x.v, y.v] w (Post u w fun v _ => v = .int .i64 (Nt.cmpS N M)) := by
  obtain ⟨a, a1, a2, a3, a4⟩ := h1
  obtain ⟨b, b1, b2, b3, b4⟩ := h2
  refine (rCompare_any _ _ _ _ _ _ _ _ _ (a1.ext d.ext) (b1.ext d.ext) a2 b2 (by omega) (by omega)).mono fun e w' ⟨h, hb⟩ => ?_
  rw [a4, b4] at h
  exact post_below d h hb
end
end Go.Proofs.Ytnedhbidmfoegaa
namespace Go.Proofs.Ytnedhbidmfoegaa
open Go.RowKit
set_option linter.unusedVariables false
namespace Nt
end Nt
section
variable {u u' w w' : World} {x y : Sl} {i j : IL} {r : RL} {N M K L : Nat} {z z' : Int} {q : Rat}
theorem rat_mk2 {s : Bool} {D : Nat} (hi : IntV u ⟨s, x⟩ z K) (hd : NatV u y D L) : RatV u ⟨s, x, y⟩ (mkRat z D) (max (max K L) 1) :=
  ⟨⟨z, D, hi.more (by omega), hd.more (by omega), rfl⟩, by omega⟩
end
end Go.Proofs.Ytnedhbidmfoegaa
namespace Go.Proofs.Ytnedhbidmfoegaa
open Go.RowKit Go.ChangeShapes Go.WideShapes
set_option linter.unusedVariables false
section
variable {H : Type} {enc : TypeId × Value → H} {P : Program} {w : World} {base : Nat} {spare : Nat → Bool} {held : Bool} {fuel : Nat} {cs : List Value} {x : DataW H × List MemPlace}
theorem wf_u32 {z : Int} (h : (Lit.int .u32 z).wf = true) : 0 ≤ z ∧ z < 4294967296 := by
  simp [Lit.wf, IntKind.min, IntKind.max, IntKind.bits, IntKind.signed] at h
  omega
theorem dig_of {l : List Int} (h : ∀ z ∈ l, 0 ≤ z ∧ z < 4294967296) : Nt.Dig l := by
  induction l with
  | nil => exact Nt.Dig.nil
  | cons z l ih => exact Nt.Dig.cons (h z (List.mem_cons_self ..)) (ih fun y hy => h y (List.mem_cons_of_mem _ hy))
theorem ar_nat (h : DataW.trod enc Try.prog w base spare held fuel 22 cs = some x) : ∃ (s : Sl) (N : Nat), cs = [s.v] ∧ NatV w s N s.n := by
  obtain ⟨s, l, h1, h2, h3⟩ := ar_slr (k := .u32) (e := 82) (by kernel_rfl) (by kernel_rfl) (by kernel_rfl) h
  have hd := dig_of (fun z hz => wf_u32 (h3 z hz))
  exact ⟨s, (Nt.val l).toNat, h1, l, h2, hd, Nat.le_refl _, by have := Nt.val_nonneg hd; omega⟩
theorem two_of {α : Type} {xs : List α} (h : xs.length = 2) : ∃ a b, xs = [a, b] := by
  match xs, h with
  | [a, b], _ => exact ⟨a, b, rfl⟩
theorem ar_int (h : DataW.trod enc Try.prog w base spare held fuel 24 cs = some x) : ∃ (i : IL) (z : Int) (K : Nat), cs = i.cs ∧ IntV w i z K := by
  obtain ⟨xs, n, _, _, hlen, hxs, hf⟩ := DataW.trod_struct Try.underlying24 h
  have hlen : cs.length = 2 := hlen.trans (by kernel_rfl)
  obtain ⟨c0, c1, rfl⟩ := two_of hlen
  obtain ⟨y0, y1, rfl⟩ := two_of (hxs.trans rfl)
  have h0 : DataW.trod enc Try.prog w base spare held n 4 [c0] = some y0 := by
    have e : Try.prog.cellsOf 4 = 1 := by kernel_rfl
    simpa [e] using hf 0 _ rfl
  have h1 : DataW.trod enc Try.prog w base spare held n 22 [c1] = some y1 := by
    have e : Try.prog.cellsOf 22 = 1 := by kernel_rfl
    simpa [e] using hf 1 _ rfl
  obtain ⟨b, hb, _⟩ := DataW.trod_bool Try.underlying4 h0
  obtain ⟨s, N, hs, hN⟩ := ar_nat h1
  simp only [List.cons.injEq, and_true] at hb hs
  subst hb hs
  exact ⟨⟨b, s⟩, Nt.sg b N, s.n, rfl, N, hN, rfl⟩
theorem ar_rat (h : DataW.trod enc Try.prog w base spare held fuel 26 cs = some x) : ∃ (r : RL) (q : Rat) (K : Nat), cs = r.cs ∧ RatV w r q K := by
  obtain ⟨xs, n, _, _, hlen, hxs, hf⟩ := DataW.trod_struct Try.underlying26 h
  have hlen : cs.length = 3 := hlen.trans (by kernel_rfl)
  obtain ⟨y0, y1, rfl⟩ := two_of (hxs.trans rfl)
  have h0 : DataW.trod enc Try.prog w base spare held n 24 (cs.take 2) = some y0 := by
    have e : Try.prog.cellsOf 24 = 2 := by kernel_rfl
    simpa [e] using hf 0 _ rfl
  have h1 : DataW.trod enc Try.prog w base spare held n 22 ((cs.drop 2).take 1) = some y1 := by
    have e : Try.prog.cellsOf 22 = 1 := by kernel_rfl
    simpa [e] using hf 1 _ rfl
  obtain ⟨i, z, K, hi, hz⟩ := ar_int h0
  obtain ⟨s, N, hs, hN⟩ := ar_nat h1
  refine ⟨⟨i.s, i.m, s⟩, mkRat z N, max (max K s.n) 1, ?_, rat_mk2 (s := i.s) hz hN⟩
  rw [show cs = cs.take 2 ++ (cs.drop 2).take 1 by rw [List.take_of_length_le (i := 1) (by simp; omega), List.take_append_drop], hi, hs]
  rfl
theorem ar_itv (h : DataW.trod enc Try.prog w base spare held fuel 28 cs = some x) : ∃ (a b : RL) (p q : Rat) (K : Nat), cs = a.cs ++ b.cs ∧ RatV w a p K ∧ RatV w b q K := by
  obtain ⟨xs, n, _, _, hlen, hxs, hf⟩ := DataW.trod_struct Try.underlying28 h
  have hlen : cs.length = 6 := hlen.trans (by kernel_rfl)
  obtain ⟨y0, y1, rfl⟩ := two_of (hxs.trans rfl)
  have e : Try.prog.cellsOf 26 = 3 := by kernel_rfl
  have h0 : DataW.trod enc Try.prog w base spare held n 26 (cs.take 3) = some y0 := by simpa [e] using hf 0 _ rfl
  have h1 : DataW.trod enc Try.prog w base spare held n 26 ((cs.drop 3).take 3) = some y1 := by simpa [e] using hf 1 _ rfl
  obtain ⟨a, p, K, ha, hp⟩ := ar_rat h0
  obtain ⟨b, q, L, hb, hq⟩ := ar_rat h1
  refine ⟨a, b, p, q, max K L, ?_, hp.more (Nat.le_max_left _ _), hq.more (Nat.le_max_right _ _)⟩
  rw [show cs = cs.take 3 ++ (cs.drop 3).take 3 by rw [List.take_of_length_le (i := 3) (l := cs.drop 3) (by simp; omega), List.take_append_drop], ha, hb]
section
variable {r0 : Reach} {b0 : Nat} {v : Value} {d : DataW H} {p : List MemPlace}
set_option maxRecDepth 100000 in
theorem ar_ratv (hv : Value.okWide Try.prog w r0 b0 26 v) (h : DataW.Trod enc Try.prog w base spare held 26 v d p) : ∃ (r : RL) (q : Rat) (K : Nat), v = r.v ∧ RatV w r q K := by
  obtain ⟨cs, rfl, hsz⟩ := okWide_struct Try.underlying26 hv
  obtain ⟨fuel, hf⟩ := h
  obtain ⟨r, q, K, hc, hr⟩ := ar_rat hf
  refine ⟨r, q, K, ?_, hr⟩
  have hc : cs.toList = r.cs := hc
  show Value.agg cs = .agg r.cs.toArray
  rw [← hc]
set_option maxRecDepth 100000 in
theorem ar_itvv (hv : Value.okWide Try.prog w r0 b0 28 v) (h : DataW.Trod enc Try.prog w base spare held 28 v d p) : ∃ (a b : RL) (x y : Rat) (K : Nat), v = .agg (a.cs ++ b.cs).toArray ∧ RatV w a x K ∧ RatV w b y K := by
  obtain ⟨cs, rfl, hsz⟩ := okWide_struct Try.underlying28 hv
  obtain ⟨fuel, hf⟩ := h
  obtain ⟨a, b, x, y, K, hc, h1, h2⟩ := ar_itv hf
  refine ⟨a, b, x, y, K, ?_, h1, h2⟩
  have hc : cs.toList = a.cs ++ b.cs := hc
  rw [← hc]
end
end
end Go.Proofs.Ytnedhbidmfoegaa
namespace Go.Proofs.Ytnedhbidmfoegaa
open Go.RowKit
set_option linter.unusedVariables false
namespace Nt
theorem sg_add4 {s t : Bool} (N M : Nat) (h : (s == t) = false) (c : decide ((0 : Int) ≤ cmpS (N : Int) (M : Int)) = true) : sg s (N - M) = sg s N + sg t M := by
  unfold cmpS at c
  cases s <;> cases t <;> simp_all [sg] <;> (split at c <;> omega)
theorem sg_add5 {s t : Bool} (N M : Nat) (h : (s == t) = false) (c : decide ((0 : Int) ≤ cmpS (N : Int) (M : Int)) = false) : sg t (M - N) = sg s N + sg t M := by
  have c' : (cmpS (N : Int) (M : Int) == -1) = true := by
    rcases cmp_range (N : Int) (M : Int) with ⟨e, h⟩ | ⟨e, h⟩ | ⟨e, h⟩ <;> rw [e] at c ⊢ <;> simp at c ⊢
  exact sg_add2 N M h c'
theorem add_div2 {a c : Int} {b d : Nat} (hb : 0 < b) (hd : 0 < d) : (((a * d + c * b : Int)) : Rat) / (((b * d : Int)) : Rat) = mkRat a b + mkRat c d := by
  rw [← add_mk hb hd, Rat.mkRat_eq_div]
  congr 1
theorem mul_div2 {a c : Int} {b d : Nat} : (((a * c : Int)) : Rat) / (((b * d : Int)) : Rat) = mkRat a b * mkRat c d := by
  rw [← mul_mk, Rat.mkRat_eq_div]
  congr 1
theorem cmpQ_lt (x y : Rat) : decide (cmpQ x y < 0) = decide (x < y) := by
  unfold cmpQ
  rw [decide_eq_decide]
  split
  · simp [*]
  · split <;> simp [*]
end Nt
section
variable {u u' w w' : World} {x y : Sl} {i j : IL} {r r' : RL} {N M K L : Nat} {z z' : Int} {q q' : Rat}
theorem neg_rat (h : RatN u r q K) (h' : IntN u i (-q.num) K) : RatN u ⟨i.s, i.m, r.d⟩ (-q) K := by
  refine ⟨?_, ?_⟩
  · show IntN u i _ _; rw [Rat.neg_num]; exact h'
  · show NatN u r.d _ _; rw [Rat.neg_den]; exact h.2
end
end Go.Proofs.Ytnedhbidmfoegaa
namespace Go.Proofs.Ytnedhbidmfoegaa
set_option linter.unusedVariables false
open Go.RowKit
theorem ty28 : TyIs Try.prog 28 true 6 := fun w => ⟨by kernel_rfl, by kernel_rfl⟩
theorem ty69 : TyIs Try.prog 69 true 12 := fun w => ⟨by kernel_rfl, by kernel_rfl⟩
end Go.Proofs.Ytnedhbidmfoegaa
namespace Go.Proofs.Ytnedhbidmfoegaa
open Go.RowKit
set_option linter.unusedVariables false
set_option maxHeartbeats 1000000 in
theorem k_riAdd {u w : World} {i1 : IL} {zN : Int} {K : Nat} {i2 : IL} {zM : Int} {L : Nat} (d : Dat u w) (hi1 : IntV u i1 zN K) (hi2 : IntV u i2 zM L) (hK : K ≤ 400000000) (hL : L ≤ 400000000) : Calls Try.prog 66 #[i1.v, i2.v] w (Post u w fun v u' => ∃ i : IL, v = i.v ∧ IntN u' i (zN + zM) (max K L + 1)) := by
  refine calls_sym (args := [i1.v, i2.v]) Try.func66 rfl Try.ntmps66 (rs := [.cell 4 24]) Try.results66 (le_b rfl) (le_b rfl) d ?_
  refine sw_seq ?_
  refine sw_reg ?_
  refine sy_new 2 ⟨24, i1.cs⟩ ?_
  refine sy_new 3 ⟨24, i2.cs⟩ ?_
  refine sy_new 4 ⟨24, [.bool false, .slice none 0 0]⟩ ?_
  refine sy_next 47 [(2, .adr 2 0), (3, .adr 3 0), (4, .adr 4 0)] [(2, ⟨24, i1.cs⟩), (3, ⟨24, i2.cs⟩), (4, ⟨24, [.bool false, .slice none 0 0]⟩)] ?_
  refine sw_seq ?_
  refine sw_any [0, 1, 0, 7, 15, 31] [(0, []), (2, []), (1, []), (3, []), (4, []), (5, [])] (by kernel_rfl) (by kernel_rfl) ?_
  refine sy_ldv 5 (.v (i1.v)) ty24 part_agg ?_
  refine sy_ldv 7 (.v (i2.v)) ty24 part_agg ?_
  refine sy_call 6 93 [i1.v] ?_
  intro w11 u11 e11 d11
  have k16 := k_riTrim d11 (hi1.ext e11) (by omega)
  with_reducible refine Post.mono k16 ?_
  clear k16
  rintro _ u14 g15 ⟨i12, rfl, h13⟩
  refine sy_call 8 93 [i2.v] ?_
  intro w17 u17 e17 d17
  have k22 := k_riTrim d17 (hi2.ext (e11.trans (g15.ext.trans e17))) (by omega)
  with_reducible refine Post.mono k22 ?_
  clear k22
  rintro _ u20 g21 ⟨i18, rfl, h19⟩
  refine sy_store ⟨24, i12.cs⟩ ty24 ?_
  refine sy_store ⟨24, i18.cs⟩ ty24 ?_
  refine sy_next 47 [(2, .adr 2 0), (3, .adr 3 0), (4, .adr 4 0)] [(2, ⟨24, i12.cs⟩), (3, ⟨24, i18.cs⟩), (4, ⟨24, [.bool false, .slice none 0 0]⟩)] ?_
  refine sw_seq ?_
  refine sw_seq ?_
  refine sw_reg ?_
  refine sy_pure 9 (.adr 2 0) ?_
  refine sy_ldv 10 (.v (.bool i12.s)) ty4 part_one ?_
  refine sy_pure 11 (.adr 3 0) ?_
  refine sy_ldv 12 (.v (.bool i18.s)) ty4 part_one ?_
  refine sy_pure 13 (.v (.bool (i12.s == i18.s))) ?_
  refine sy_next 47 [(2, .adr 2 0), (3, .adr 3 0), (4, .adr 4 0), (13, .v (.bool (i12.s == i18.s)))] [(2, ⟨24, i12.cs⟩), (3, ⟨24, i18.cs⟩), (4, ⟨24, [.bool false, .slice none 0 0]⟩)] ?_
  refine sw_cond (b := i12.s == i18.s) (by kernel_rfl) (fun hb23 => ?_) (fun hb23 => ?_)
  · replace hb23 : (i12.s == i18.s) = true := hb23
    refine sw_seq ?_
    refine sw_any [0, 1, 0, 4, 0, 16, 60, 127, 255, 511] [(0, []), (1, []), (2, []), (3, []), (4, []), (5, []), (6, []), (7, []), (8, []), (9, [])] (by kernel_rfl) (by kernel_rfl) ?_
    refine sy_pure 14 (.adr 2 0) ?_
    refine sy_ldv 15 (.v (.bool i12.s)) ty4 part_one ?_
    refine sy_pure 16 (.adr 2 1) ?_
    refine sy_ldv 17 (.v (.slice i12.m.a i12.m.n i12.m.c)) ty22 part_one ?_
    refine sy_pure 18 (.adr 3 1) ?_
    refine sy_ldv 19 (.v (.slice i18.m.a i18.m.n i18.m.c)) ty22 part_one ?_
    refine sy_call 20 102 [.slice i12.m.a i12.m.n i12.m.c, .slice i18.m.a i18.m.n i18.m.c] ?_
    intro w24 u24 e24 d24
    have k29 := k_rnAdd d24 ((int_mag h13).ext (e17.trans (g21.ext.trans e24))).raw ((int_mag h19).ext e24).raw (by omega) (by omega)
    with_reducible refine Post.mono k29 ?_
    clear k29
    rintro _ u27 g28 ⟨x25, rfl, h26⟩
    refine sy_pure 21 (.v (.agg #[.bool i12.s, .slice x25.a x25.n x25.c])) ?_
    refine sy_call 22 93 [.agg #[.bool i12.s, .slice x25.a x25.n x25.c]] ?_
    intro w30 u30 e30 d30
    have k35 := k_riTrim d30 (IntV.same (s := i12.s) (h26.ext e30).raw) (by omega)
    with_reducible refine Post.mono k35 ?_
    clear k35
    rintro _ u33 g34 ⟨i31, rfl, h32⟩
    refine sy_store ⟨24, i31.cs⟩ ty24 ?_
    refine sy_next 47 [(4, .adr 4 0)] [(4, ⟨24, i31.cs⟩)] ?_
    refine sw_ret (mpr_seq (ret0 [i31.v] ⟨res_cell ty24 part_agg, trivial⟩ fun u36 e37 => ?_))
    refine ⟨i31, rfl, IntN.more (K := (max K L + 1)) ?_ (by omega)⟩
    have h9 : zN + zM = (Nt.sg i12.s ((zN : Int).natAbs + (zM : Int).natAbs)) := by
      rw [Nt.sg_add1 _ _ hb23]
      rw [← IntN.sg h13, ← IntN.sg h19]
    rw [h9]
    exact (h32.ext e37)
  · replace hb23 : (i12.s == i18.s) = false := hb23
    refine sw_skip (mp_seq ?_)
    refine sw_seq ?_
    refine sw_seq ?_
    refine sw_reg ?_
    refine sy_pure 23 (.adr 2 1) ?_
    refine sy_ldv 24 (.v (.slice i12.m.a i12.m.n i12.m.c)) ty22 part_one ?_
    refine sy_pure 25 (.adr 3 1) ?_
    refine sy_ldv 26 (.v (.slice i18.m.a i18.m.n i18.m.c)) ty22 part_one ?_
    refine sy_call 27 103 [.slice i12.m.a i12.m.n i12.m.c, .slice i18.m.a i18.m.n i18.m.c] ?_
    intro w38 u38 e38 d38
    have k41 := k_rnCompare d38 ((int_mag h13).ext (e17.trans (g21.ext.trans e38))).raw ((int_mag h19).ext e38).raw (by omega) (by omega)
    with_reducible refine Post.mono k41 ?_
    clear k41
    rintro _ u39 g40 rfl
    refine sy_pure 28 (.v (.bool (decide ((0 : Int) ≤ (Nt.cmpS ((zN : Int).natAbs) ((zM : Int).natAbs)))))) ?_
    refine sy_next 47 [(2, .adr 2 0), (3, .adr 3 0), (4, .adr 4 0), (28, .v (.bool (decide ((0 : Int) ≤ (Nt.cmpS ((zN : Int).natAbs) ((zM : Int).natAbs))))))] [(2, ⟨24, i12.cs⟩), (3, ⟨24, i18.cs⟩), (4, ⟨24, [.bool false, .slice none 0 0]⟩)] ?_
    refine sw_cond (b := decide ((0 : Int) ≤ (Nt.cmpS ((zN : Int).natAbs) ((zM : Int).natAbs)))) (by kernel_rfl) (fun hb42 => ?_) (fun hb42 => ?_)
    · replace hb42 : (decide ((0 : Int) ≤ (Nt.cmpS ((zN : Int).natAbs) ((zM : Int).natAbs)))) = true := hb42
      have qhb42 := of_decide_eq_true hb42
      refine sw_seq ?_
      refine sw_any [0, 1, 0, 4, 0, 16, 60, 127, 255, 511] [(0, []), (1, []), (2, []), (3, []), (4, []), (5, []), (6, []), (7, []), (8, []), (9, [])] (by kernel_rfl) (by kernel_rfl) ?_
      refine sy_pure 29 (.adr 2 0) ?_
      refine sy_ldv 30 (.v (.bool i12.s)) ty4 part_one ?_
      refine sy_pure 31 (.adr 2 1) ?_
      refine sy_ldv 32 (.v (.slice i12.m.a i12.m.n i12.m.c)) ty22 part_one ?_
      refine sy_pure 33 (.adr 3 1) ?_
      refine sy_ldv 34 (.v (.slice i18.m.a i18.m.n i18.m.c)) ty22 part_one ?_
      refine sy_call 35 104 [.slice i12.m.a i12.m.n i12.m.c, .slice i18.m.a i18.m.n i18.m.c] ?_
      intro w43 u43 e43 d43
      have k48 := k_rnSub d43 ((int_mag h13).ext (e17.trans (g21.ext.trans (e38.trans (g40.ext.trans e43))))).raw ((int_mag h19).ext (e38.trans (g40.ext.trans e43))).raw (by omega) (by omega)
      with_reducible refine Post.mono k48 ?_
      clear k48
      rintro _ u46 g47 ⟨x44, rfl, h45⟩
      refine sy_pure 36 (.v (.agg #[.bool i12.s, .slice x44.a x44.n x44.c])) ?_
      refine sy_call 37 93 [.agg #[.bool i12.s, .slice x44.a x44.n x44.c]] ?_
      intro w49 u49 e49 d49
      have k54 := k_riTrim d49 (IntV.same (s := i12.s) (h45.ext e49).raw) (by omega)
      with_reducible refine Post.mono k54 ?_
      clear k54
      rintro _ u52 g53 ⟨i50, rfl, h51⟩
      refine sy_store ⟨24, i50.cs⟩ ty24 ?_
      refine sy_next 47 [(4, .adr 4 0)] [(4, ⟨24, i50.cs⟩)] ?_
      refine sw_ret (mpr_seq (ret0 [i50.v] ⟨res_cell ty24 part_agg, trivial⟩ fun u55 e56 => ?_))
      refine ⟨i50, rfl, IntN.more (K := K) ?_ (by omega)⟩
      have h9 : zN + zM = (Nt.sg i12.s ((zN : Int).natAbs - (zM : Int).natAbs)) := by
        rw [Nt.sg_add4 _ _ hb23 hb42]
        rw [← IntN.sg h13, ← IntN.sg h19]
      rw [h9]
      exact (h51.ext e56)
    · replace hb42 : (decide ((0 : Int) ≤ (Nt.cmpS ((zN : Int).natAbs) ((zM : Int).natAbs)))) = false := hb42
      have qhb42 := of_decide_eq_false hb42
      refine sw_skip (mp_seq ?_)
      refine sw_seq ?_
      refine sw_any [0, 1, 0, 4, 0, 16, 60, 127, 255, 511] [(0, []), (1, []), (2, []), (3, []), (4, []), (5, []), (6, []), (7, []), (8, []), (9, [])] (by kernel_rfl) (by kernel_rfl) ?_
      refine sy_pure 38 (.adr 3 0) ?_
      refine sy_ldv 39 (.v (.bool i18.s)) ty4 part_one ?_
      refine sy_pure 40 (.adr 3 1) ?_
      refine sy_ldv 41 (.v (.slice i18.m.a i18.m.n i18.m.c)) ty22 part_one ?_
      refine sy_pure 42 (.adr 2 1) ?_
      refine sy_ldv 43 (.v (.slice i12.m.a i12.m.n i12.m.c)) ty22 part_one ?_
      refine sy_call 44 104 [.slice i18.m.a i18.m.n i18.m.c, .slice i12.m.a i12.m.n i12.m.c] ?_
      intro w57 u57 e57 d57
      have k62 := k_rnSub d57 ((int_mag h19).ext (e38.trans (g40.ext.trans e57))).raw ((int_mag h13).ext (e17.trans (g21.ext.trans (e38.trans (g40.ext.trans e57))))).raw (by omega) (by omega)
      with_reducible refine Post.mono k62 ?_
      clear k62
      rintro _ u60 g61 ⟨x58, rfl, h59⟩
      refine sy_pure 45 (.v (.agg #[.bool i18.s, .slice x58.a x58.n x58.c])) ?_
      refine sy_call 46 93 [.agg #[.bool i18.s, .slice x58.a x58.n x58.c]] ?_
      intro w63 u63 e63 d63
      have k68 := k_riTrim d63 (IntV.same (s := i18.s) (h59.ext e63).raw) (by omega)
      with_reducible refine Post.mono k68 ?_
      clear k68
      rintro _ u66 g67 ⟨i64, rfl, h65⟩
      refine sy_store ⟨24, i64.cs⟩ ty24 ?_
      refine sy_next 47 [(4, .adr 4 0)] [(4, ⟨24, i64.cs⟩)] ?_
      refine sw_ret (ret0 [i64.v] ⟨res_cell ty24 part_agg, trivial⟩ fun u69 e70 => ?_)
      refine ⟨i64, rfl, IntN.more (K := L) ?_ (by omega)⟩
      have h9 : zN + zM = (Nt.sg i18.s ((zM : Int).natAbs - (zN : Int).natAbs)) := by
        rw [Nt.sg_add5 _ _ hb23 hb42]
        rw [← IntN.sg h13, ← IntN.sg h19]
      rw [h9]
      exact (h65.ext e70)
theorem k_riSub {u w : World} {i1 : IL} {zN : Int} {K : Nat} {i2 : IL} {zM : Int} {L : Nat} (d : Dat u w) (hi1 : IntV u i1 zN K) (hi2 : IntV u i2 zM L) (hK : K ≤ 400000000) (hL : L ≤ 400000000) : Calls Try.prog 139 #[i1.v, i2.v] w (Post u w fun v u' => ∃ i : IL, v = i.v ∧ IntN u' i (zN - zM) (max K L + 1)) := by
  refine calls_sym (args := [i1.v, i2.v]) Try.func139 rfl Try.ntmps139 (rs := [.cell 4 24]) Try.results139 (le_b rfl) (le_b rfl) d ?_
  refine sw_seq ?_
  refine sw_reg ?_
  refine sy_new 2 ⟨24, i1.cs⟩ ?_
  refine sy_new 3 ⟨24, i2.cs⟩ ?_
  refine sy_new 4 ⟨24, [.bool false, .slice none 0 0]⟩ ?_
  refine sy_next 9 [(2, .adr 2 0), (3, .adr 3 0), (4, .adr 4 0)] [(2, ⟨24, i1.cs⟩), (3, ⟨24, i2.cs⟩), (4, ⟨24, [.bool false, .slice none 0 0]⟩)] ?_
  refine sw_seq ?_
  refine sw_any [0, 0, 2, 7, 15] [(0, []), (1, []), (2, []), (3, []), (4, [])] (by kernel_rfl) (by kernel_rfl) ?_
  refine sy_ldv 5 (.v (i1.v)) ty24 part_agg ?_
  refine sy_ldv 6 (.v (i2.v)) ty24 part_agg ?_
  refine sy_call 7 101 [i2.v] ?_
  intro w11 u11 e11 d11
  have k16 := k_riNeg d11 (hi2.ext e11) (by omega)
  with_reducible refine Post.mono k16 ?_
  clear k16
  rintro _ u14 g15 ⟨i12, rfl, h13⟩
  refine sy_call 8 66 [i1.v, i12.v] ?_
  intro w17 u17 e17 d17
  have k22 := k_riAdd d17 (hi1.ext (e11.trans (g15.ext.trans e17))) (h13.ext e17).raw (by omega) (by omega)
  with_reducible refine Post.mono k22 ?_
  clear k22
  rintro _ u20 g21 ⟨i18, rfl, h19⟩
  refine sy_store ⟨24, i18.cs⟩ ty24 ?_
  refine sy_next 9 [(4, .adr 4 0)] [(4, ⟨24, i18.cs⟩)] ?_
  refine sw_ret (ret0 [i18.v] ⟨res_cell ty24 part_agg, trivial⟩ fun u23 e24 => ?_)
  refine ⟨i18, rfl, ?_⟩
  rw [Int.sub_eq_add_neg]
  exact (h19.ext e24)
theorem k_riCompare {u w : World} {i1 : IL} {zN : Int} {K : Nat} {i2 : IL} {zM : Int} {L : Nat} (d : Dat u w) (hi1 : IntV u i1 zN K) (hi2 : IntV u i2 zM L) (hK : K ≤ 400000000) (hL : L ≤ 400000000) : Calls Try.prog 128 #[i1.v, i2.v] w (Post u w fun v u' => v = .int .i64 (Nt.cmpS zN zM)) := by
  refine calls_sym (args := [i1.v, i2.v]) Try.func128 rfl Try.ntmps128 (rs := [.tmp 4]) Try.results128 (le_b rfl) (le_b rfl) d ?_
  refine sw_seq ?_
  refine sw_reg ?_
  refine sy_new 2 ⟨24, i1.cs⟩ ?_
  refine sy_new 3 ⟨24, i2.cs⟩ ?_
  refine sy_pure 4 (.v (.int .i64 0)) ?_
  refine sy_next 9 [(2, .adr 2 0), (3, .adr 3 0)] [(2, ⟨24, i1.cs⟩), (3, ⟨24, i2.cs⟩)] ?_
  refine sw_seq ?_
  refine sw_reg ?_
  refine sy_ldv 5 (.v (i1.v)) ty24 part_agg ?_
  refine sy_ldv 6 (.v (i2.v)) ty24 part_agg ?_
  refine sy_call 7 139 [i1.v, i2.v] ?_
  intro w11 u11 e11 d11
  have k16 := k_riSub d11 (hi1.ext e11) (hi2.ext e11) (by omega) (by omega)
  with_reducible refine Post.mono k16 ?_
  clear k16
  rintro _ u14 g15 ⟨i12, rfl, h13⟩
  refine sy_call 8 98 [i12.v] ?_
  intro w17 u17 e17 d17
  have k20 := k_riSign d17 (h13.ext e17).raw (by omega)
  with_reducible refine Post.mono k20 ?_
  clear k20
  rintro _ u18 g19 rfl
  refine sy_pure 4 (.v (.int .i64 (Nt.cmpS (zN - zM) 0))) ?_
  refine sy_next 9 [(4, .v (.int .i64 (Nt.cmpS (zN - zM) 0)))] [] ?_
  refine sw_ret (ret0 [.int .i64 (Nt.cmpS (zN - zM) 0)] ⟨res_tmp, trivial⟩ fun u21 e22 => ?_)
  show Value.int _ _ = Value.int _ _
  rw [Nt.cmp_self_sub]
theorem k_riMul {u w : World} {i1 : IL} {zN : Int} {K : Nat} {i2 : IL} {zM : Int} {L : Nat} (d : Dat u w) (hi1 : IntV u i1 zN K) (hi2 : IntV u i2 zM L) (hK : K ≤ 250000000) (hL : L ≤ 250000000) : Calls Try.prog 67 #[i1.v, i2.v] w (Post u w fun v u' => ∃ i : IL, v = i.v ∧ IntN u' i (zN * zM) (K + L)) := by
  obtain ⟨N, hN, hzN⟩ := hi1
  obtain ⟨M, hM, hzM⟩ := hi2
  refine calls_sym (args := [i1.v, i2.v]) Try.func67 rfl Try.ntmps67 (rs := [.cell 4 24]) Try.results67 (le_b rfl) (le_b rfl) d ?_
  refine sw_seq ?_
  refine sw_reg ?_
  refine sy_new 2 ⟨24, i1.cs⟩ ?_
  refine sy_new 3 ⟨24, i2.cs⟩ ?_
  refine sy_new 4 ⟨24, [.bool false, .slice none 0 0]⟩ ?_
  refine sy_next 17 [(2, .adr 2 0), (3, .adr 3 0), (4, .adr 4 0)] [(2, ⟨24, i1.cs⟩), (3, ⟨24, i2.cs⟩), (4, ⟨24, [.bool false, .slice none 0 0]⟩)] ?_
  refine sw_seq ?_
  refine sw_any [0, 1, 0, 4, 15, 0, 32, 0, 128, 480, 1023, 2047, 4095] [(0, []), (1, []), (2, []), (3, []), (4, []), (5, []), (6, []), (7, []), (8, []), (9, []), (10, []), (11, []), (12, [])] (by kernel_rfl) (by kernel_rfl) ?_
  refine sy_pure 5 (.adr 2 0) ?_
  refine sy_ldv 6 (.v (.bool i1.s)) ty4 part_one ?_
  refine sy_pure 7 (.adr 3 0) ?_
  refine sy_ldv 8 (.v (.bool i2.s)) ty4 part_one ?_
  refine sy_pure 9 (.v (.bool (!(i1.s == i2.s)))) ?_
  refine sy_pure 10 (.adr 2 1) ?_
  refine sy_ldv 11 (.v (.slice i1.m.a i1.m.n i1.m.c)) ty22 part_one ?_
  refine sy_pure 12 (.adr 3 1) ?_
  refine sy_ldv 13 (.v (.slice i2.m.a i2.m.n i2.m.c)) ty22 part_one ?_
  refine sy_call 14 105 [.slice i1.m.a i1.m.n i1.m.c, .slice i2.m.a i2.m.n i2.m.c] ?_
  intro w11 u11 e11 d11
  have k16 := k_rnMul d11 (hN.ext e11) (hM.ext e11) (by omega) (by omega)
  with_reducible refine Post.mono k16 ?_
  clear k16
  rintro _ u14 g15 ⟨x12, rfl, h13⟩
  refine sy_pure 15 (.v (.agg #[.bool (!(i1.s == i2.s)), .slice x12.a x12.n x12.c])) ?_
  refine sy_call 16 93 [.agg #[.bool (!(i1.s == i2.s)), .slice x12.a x12.n x12.c]] ?_
  intro w17 u17 e17 d17
  have k22 := k_riTrim d17 (IntV.same (s := !(i1.s == i2.s)) (h13.ext e17).raw) (by omega)
  with_reducible refine Post.mono k22 ?_
  clear k22
  rintro _ u20 g21 ⟨i18, rfl, h19⟩
  refine sy_store ⟨24, i18.cs⟩ ty24 ?_
  refine sy_next 17 [(4, .adr 4 0)] [(4, ⟨24, i18.cs⟩)] ?_
  refine sw_ret (ret0 [i18.v] ⟨res_cell ty24 part_agg, trivial⟩ fun u23 e24 => ?_)
  refine ⟨i18, rfl, IntN.more (K := (K + L)) ?_ (by omega)⟩
  rw [hzN, hzM, ← Nt.sg_mul]
  exact (h19.ext e24)
end Go.Proofs.Ytnedhbidmfoegaa
namespace Go.Proofs.Ytnedhbidmfoegaa
open Go.RowKit
set_option linter.unusedVariables false
theorem k_rqCompare {u w : World} {r1 : RL} {x : Rat} {K : Nat} {r2 : RL} {y : Rat} {L : Nat} (d : Dat u w) (hr1 : RatV u r1 x K) (hr2 : RatV u r2 y L) (hK : K ≤ 100000000) (hL : L ≤ 100000000) : Calls Try.prog 120 #[r1.v, r2.v] w (Post u w fun v u' => v = .int .i64 (Nt.cmpQ x y)) := by
  refine calls_sym (args := [r1.v, r2.v]) Try.func120 rfl Try.ntmps120 (rs := [.tmp 4]) Try.results120 (le_b rfl) (le_b rfl) d ?_
  refine sw_seq ?_
  refine sw_reg ?_
  refine sy_new 2 ⟨26, r1.cs⟩ ?_
  refine sy_new 3 ⟨26, r2.cs⟩ ?_
  refine sy_pure 4 (.v (.int .i64 0)) ?_
  refine sy_next 26 [(2, .adr 2 0), (3, .adr 3 0)] [(2, ⟨26, r1.cs⟩), (3, ⟨26, r2.cs⟩)] ?_
  refine sw_seq ?_
  refine sw_reg ?_
  refine sy_ldv 10 (.v (r1.v)) ty26 part_agg ?_
  refine sy_call 11 64 [r1.v] ?_
  intro w11 u11 e11 d11
  have k15 := k_parts d11 (hr1.ext e11) (by omega)
  with_reducible refine Post.mono k15 ?_
  clear k15
  rintro _ u13 g14 ⟨i12, j12, z12, D12, rfl, hi12, hj12, hp12, hq12, hk12⟩
  refine sy_pure 9 (.v (.tuple #[i12.v, j12.v])) ?_
  refine sy_pure 12 (.v (i12.v)) ?_
  refine sy_pure 13 (.v (j12.v)) ?_
  refine sy_new 5 ⟨24, [.bool false, .slice none 0 0]⟩ ?_
  refine sy_new 6 ⟨24, [.bool false, .slice none 0 0]⟩ ?_
  refine sy_store ⟨24, i12.cs⟩ ty24 ?_
  refine sy_store ⟨24, j12.cs⟩ ty24 ?_
  refine sy_next 26 [(3, .adr 3 0), (5, .adr 5 0), (6, .adr 6 0)] [(3, ⟨26, r2.cs⟩), (5, ⟨24, i12.cs⟩), (6, ⟨24, j12.cs⟩)] ?_
  refine sw_seq ?_
  refine sw_reg ?_
  refine sy_ldv 15 (.v (r2.v)) ty26 part_agg ?_
  refine sy_call 16 64 [r2.v] ?_
  intro w16 u16 e16 d16
  have k20 := k_parts d16 (hr2.ext (e11.trans (g14.ext.trans e16))) (by omega)
  with_reducible refine Post.mono k20 ?_
  clear k20
  rintro _ u18 g19 ⟨i17, j17, z17, D17, rfl, hi17, hj17, hp17, hq17, hk17⟩
  refine sy_pure 14 (.v (.tuple #[i17.v, j17.v])) ?_
  refine sy_pure 17 (.v (i17.v)) ?_
  refine sy_pure 18 (.v (j17.v)) ?_
  refine sy_new 7 ⟨24, [.bool false, .slice none 0 0]⟩ ?_
  refine sy_new 8 ⟨24, [.bool false, .slice none 0 0]⟩ ?_
  refine sy_store ⟨24, i17.cs⟩ ty24 ?_
  refine sy_store ⟨24, j17.cs⟩ ty24 ?_
  refine sy_next 26 [(5, .adr 5 0), (6, .adr 6 0), (7, .adr 7 0), (8, .adr 8 0)] [(5, ⟨24, i12.cs⟩), (6, ⟨24, j12.cs⟩), (7, ⟨24, i17.cs⟩), (8, ⟨24, j17.cs⟩)] ?_
  refine sw_seq ?_
  refine sw_any [0, 0, 3, 0, 0, 31, 63, 127] [(0, []), (1, []), (3, []), (4, []), (2, []), (5, []), (6, []), (7, [])] (by kernel_rfl) (by kernel_rfl) ?_
  refine sy_ldv 19 (.v (i12.v)) ty24 part_agg ?_
  refine sy_ldv 20 (.v (j17.v)) ty24 part_agg ?_
  refine sy_ldv 22 (.v (i17.v)) ty24 part_agg ?_
  refine sy_ldv 23 (.v (j12.v)) ty24 part_agg ?_
  refine sy_call 21 67 [i12.v, j17.v] ?_
  intro w21 u21 e21 d21
  have k26 := k_riMul d21 (hi12.ext (e16.trans (g19.ext.trans e21))) (hj17.ext e21).raw (by omega) (by omega)
  with_reducible refine Post.mono k26 ?_
  clear k26
  rintro _ u24 g25 ⟨i22, rfl, h23⟩
  refine sy_call 24 67 [i17.v, j12.v] ?_
  intro w27 u27 e27 d27
  have k32 := k_riMul d27 (hi17.ext (e21.trans (g25.ext.trans e27))) (hj12.ext (e16.trans (g19.ext.trans (e21.trans (g25.ext.trans e27))))).raw (by omega) (by omega)
  with_reducible refine Post.mono k32 ?_
  clear k32
  rintro _ u30 g31 ⟨i28, rfl, h29⟩
  refine sy_call 25 128 [i22.v, i28.v] ?_
  intro w33 u33 e33 d33
  have k36 := k_riCompare d33 (h23.ext (e27.trans (g31.ext.trans e33))).raw (h29.ext e33).raw (by omega) (by omega)
  with_reducible refine Post.mono k36 ?_
  clear k36
  rintro _ u34 g35 rfl
  refine sy_pure 4 (.v (.int .i64 (Nt.cmpS (z12 * (D17 : Int)) (z17 * (D12 : Int))))) ?_
  refine sy_next 26 [(4, .v (.int .i64 (Nt.cmpS (z12 * (D17 : Int)) (z17 * (D12 : Int)))))] [] ?_
  refine sw_ret (ret0 [.int .i64 (Nt.cmpS (z12 * (D17 : Int)) (z17 * (D12 : Int)))] ⟨res_tmp, trivial⟩ fun u37 e38 => ?_)
  show _ = _
  rw [hq12, hq17, ← Nt.cmp_mk hp12 hp17]
  rfl
theorem k_rqLess {u w : World} {r1 : RL} {x : Rat} {K : Nat} {r2 : RL} {y : Rat} {L : Nat} (d : Dat u w) (hr1 : RatV u r1 x K) (hr2 : RatV u r2 y L) (hK : K ≤ 100000000) (hL : L ≤ 100000000) : Calls Try.prog 96 #[r1.v, r2.v] w (Post u w fun v u' => v = .bool (decide (x < y))) := by
  refine calls_sym (args := [r1.v, r2.v]) Try.func96 rfl Try.ntmps96 (rs := [.tmp 4]) Try.results96 (le_b rfl) (le_b rfl) d ?_
  refine sw_seq ?_
  refine sw_reg ?_
  refine sy_new 2 ⟨26, r1.cs⟩ ?_
  refine sy_new 3 ⟨26, r2.cs⟩ ?_
  refine sy_pure 4 (.v (.bool false)) ?_
  refine sy_next 9 [(2, .adr 2 0), (3, .adr 3 0)] [(2, ⟨26, r1.cs⟩), (3, ⟨26, r2.cs⟩)] ?_
  refine sw_seq ?_
  refine sw_reg ?_
  refine sy_ldv 5 (.v (r1.v)) ty26 part_agg ?_
  refine sy_ldv 6 (.v (r2.v)) ty26 part_agg ?_
  refine sy_call 7 120 [r1.v, r2.v] ?_
  intro w11 u11 e11 d11
  have k14 := k_rqCompare d11 (hr1.ext e11) (hr2.ext e11) (by omega) (by omega)
  with_reducible refine Post.mono k14 ?_
  clear k14
  rintro _ u12 g13 rfl
  refine sy_pure 8 (.v (.bool (decide ((Nt.cmpQ x y) < 0)))) ?_
  refine sy_pure 4 (.v (.bool (decide ((Nt.cmpQ x y) < 0)))) ?_
  refine sy_next 9 [(4, .v (.bool (decide ((Nt.cmpQ x y) < 0))))] [] ?_
  refine sw_ret (ret0 [.bool (decide ((Nt.cmpQ x y) < 0))] ⟨res_tmp, trivial⟩ fun u15 e16 => ?_)
  show _ = _
  rw [← Nt.cmpQ_lt]
  rfl
theorem k_rqNeg {u w : World} {r1 : RL} {x : Rat} {K : Nat} (d : Dat u w) (hr1 : RatV u r1 x K) (hK : K ≤ 100000000) : Calls Try.prog 106 #[r1.v] w (Post u w fun v u' => ∃ r : RL, v = r.v ∧ RatN u' r (-x) K) := by
  refine calls_sym (args := [r1.v]) Try.func106 rfl Try.ntmps106 (rs := [.cell 2 26]) Try.results106 (le_b rfl) (le_b rfl) d ?_
  refine sw_seq ?_
  refine sw_reg ?_
  refine sy_new 1 ⟨26, r1.cs⟩ ?_
  refine sy_new 2 ⟨26, [.bool false, .slice none 0 0, .slice none 0 0]⟩ ?_
  refine sy_next 10 [(1, .adr 1 0), (2, .adr 2 0)] [(1, ⟨26, r1.cs⟩), (2, ⟨26, [.bool false, .slice none 0 0, .slice none 0 0]⟩)] ?_
  refine sw_seq ?_
  refine sw_reg ?_
  refine sy_ldv 3 (.v (r1.v)) ty26 part_agg ?_
  refine sy_call 4 83 [r1.v] ?_
  intro w11 u11 e11 d11
  have k16 := k_rqTrim d11 (hr1.ext e11) (by omega)
  with_reducible refine Post.mono k16 ?_
  clear k16
  rintro _ u14 g15 ⟨r12, rfl, h13⟩
  refine sy_store ⟨26, r12.cs⟩ ty26 ?_
  refine sy_next 10 [(1, .adr 1 0), (2, .adr 2 0)] [(1, ⟨26, r12.cs⟩), (2, ⟨26, [.bool false, .slice none 0 0, .slice none 0 0]⟩)] ?_
  refine sw_seq ?_
  refine sw_reg ?_
  refine sy_pure 5 (.adr 1 0) ?_
  refine sy_ldv 6 (.v (.agg #[.bool r12.s, .slice r12.m.a r12.m.n r12.m.c])) ty24 part_agg ?_
  refine sy_call 7 101 [.agg #[.bool r12.s, .slice r12.m.a r12.m.n r12.m.c]] ?_
  intro w17 u17 e17 d17
  have k22 := k_riNeg d17 ((RatN.num h13).ext e17).raw (by omega)
  with_reducible refine Post.mono k22 ?_
  clear k22
  rintro _ u20 g21 ⟨i18, rfl, h19⟩
  refine sy_pure 8 (.adr 1 0) ?_
  refine sy_store ⟨26, i18.cs ++ [.slice r12.d.a r12.d.n r12.d.c]⟩ ty24 ?_
  refine sy_next 10 [(1, .adr 1 0), (2, .adr 2 0)] [(1, ⟨26, i18.cs ++ [.slice r12.d.a r12.d.n r12.d.c]⟩), (2, ⟨26, [.bool false, .slice none 0 0, .slice none 0 0]⟩)] ?_
  refine sw_seq ?_
  refine sw_reg ?_
  refine sy_ldv 9 (.v (.agg #[.bool i18.s, .slice i18.m.a i18.m.n i18.m.c, .slice r12.d.a r12.d.n r12.d.c])) ty26 part_agg ?_
  refine sy_store ⟨26, i18.cs ++ [.slice r12.d.a r12.d.n r12.d.c]⟩ ty26 ?_
  refine sy_next 10 [(2, .adr 2 0)] [(2, ⟨26, i18.cs ++ [.slice r12.d.a r12.d.n r12.d.c]⟩)] ?_
  refine sw_ret (ret0 [.agg #[.bool i18.s, .slice i18.m.a i18.m.n i18.m.c, .slice r12.d.a r12.d.n r12.d.c]] ⟨res_cell ty26 part_agg, trivial⟩ fun u23 e24 => ?_)
  exact ⟨(⟨i18.s, i18.m, r12.d⟩ : RL), rfl, neg_rat (h13.ext (e17.trans (g21.ext.trans e24))) (h19.ext e24)⟩
theorem k_rqAdd {u w : World} {r1 : RL} {x : Rat} {K : Nat} {r2 : RL} {y : Rat} {L : Nat} (d : Dat u w) (hr1 : RatV u r1 x K) (hr2 : RatV u r2 y L) (hK : K ≤ 100000000) (hL : L ≤ 100000000) : Calls Try.prog 34 #[r1.v, r2.v] w (Post u w fun v u' => ∃ r : RL, v = r.v ∧ RatN u' r (x + y) (K + L + 2)) := by
  refine calls_sym (args := [r1.v, r2.v]) Try.func34 rfl Try.ntmps34 (rs := [.cell 4 26]) Try.results34 (le_b rfl) (le_b rfl) d ?_
  refine sw_seq ?_
  refine sw_reg ?_
  refine sy_new 2 ⟨26, r1.cs⟩ ?_
  refine sy_new 3 ⟨26, r2.cs⟩ ?_
  refine sy_new 4 ⟨26, [.bool false, .slice none 0 0, .slice none 0 0]⟩ ?_
  refine sy_next 30 [(2, .adr 2 0), (3, .adr 3 0), (4, .adr 4 0)] [(2, ⟨26, r1.cs⟩), (3, ⟨26, r2.cs⟩), (4, ⟨26, [.bool false, .slice none 0 0, .slice none 0 0]⟩)] ?_
  refine sw_seq ?_
  refine sw_reg ?_
  refine sy_ldv 10 (.v (r1.v)) ty26 part_agg ?_
  refine sy_call 11 64 [r1.v] ?_
  intro w11 u11 e11 d11
  have k15 := k_parts d11 (hr1.ext e11) (by omega)
  with_reducible refine Post.mono k15 ?_
  clear k15
  rintro _ u13 g14 ⟨i12, j12, z12, D12, rfl, hi12, hj12, hp12, hq12, hk12⟩
  refine sy_pure 9 (.v (.tuple #[i12.v, j12.v])) ?_
  refine sy_pure 12 (.v (i12.v)) ?_
  refine sy_pure 13 (.v (j12.v)) ?_
  refine sy_new 5 ⟨24, [.bool false, .slice none 0 0]⟩ ?_
  refine sy_new 6 ⟨24, [.bool false, .slice none 0 0]⟩ ?_
  refine sy_store ⟨24, i12.cs⟩ ty24 ?_
  refine sy_store ⟨24, j12.cs⟩ ty24 ?_
  refine sy_next 30 [(3, .adr 3 0), (4, .adr 4 0), (5, .adr 5 0), (6, .adr 6 0)] [(3, ⟨26, r2.cs⟩), (4, ⟨26, [.bool false, .slice none 0 0, .slice none 0 0]⟩), (5, ⟨24, i12.cs⟩), (6, ⟨24, j12.cs⟩)] ?_
  refine sw_seq ?_
  refine sw_reg ?_
  refine sy_ldv 15 (.v (r2.v)) ty26 part_agg ?_
  refine sy_call 16 64 [r2.v] ?_
  intro w16 u16 e16 d16
  have k20 := k_parts d16 (hr2.ext (e11.trans (g14.ext.trans e16))) (by omega)
  with_reducible refine Post.mono k20 ?_
  clear k20
  rintro _ u18 g19 ⟨i17, j17, z17, D17, rfl, hi17, hj17, hp17, hq17, hk17⟩
  refine sy_pure 14 (.v (.tuple #[i17.v, j17.v])) ?_
  refine sy_pure 17 (.v (i17.v)) ?_
  refine sy_pure 18 (.v (j17.v)) ?_
  refine sy_new 7 ⟨24, [.bool false, .slice none 0 0]⟩ ?_
  refine sy_new 8 ⟨24, [.bool false, .slice none 0 0]⟩ ?_
  refine sy_store ⟨24, i17.cs⟩ ty24 ?_
  refine sy_store ⟨24, j17.cs⟩ ty24 ?_
  refine sy_next 30 [(4, .adr 4 0), (5, .adr 5 0), (6, .adr 6 0), (7, .adr 7 0), (8, .adr 8 0)] [(4, ⟨26, [.bool false, .slice none 0 0, .slice none 0 0]⟩), (5, ⟨24, i12.cs⟩), (6, ⟨24, j12.cs⟩), (7, ⟨24, i17.cs⟩), (8, ⟨24, j17.cs⟩)] ?_
  refine sw_seq ?_
  refine sw_any [0, 0, 3, 0, 0, 31, 63, 0, 0, 511, 1023, 2047] [(0, []), (1, []), (3, []), (4, []), (7, []), (8, []), (2, []), (5, []), (6, []), (9, []), (10, []), (11, [])] (by kernel_rfl) (by kernel_rfl) ?_
  refine sy_ldv 19 (.v (i12.v)) ty24 part_agg ?_
  refine sy_ldv 20 (.v (j17.v)) ty24 part_agg ?_
  refine sy_ldv 22 (.v (i17.v)) ty24 part_agg ?_
  refine sy_ldv 23 (.v (j12.v)) ty24 part_agg ?_
  refine sy_ldv 26 (.v (j12.v)) ty24 part_agg ?_
  refine sy_ldv 27 (.v (j17.v)) ty24 part_agg ?_
  refine sy_call 21 67 [i12.v, j17.v] ?_
  intro w21 u21 e21 d21
  have k26 := k_riMul d21 (hi12.ext (e16.trans (g19.ext.trans e21))) (hj17.ext e21).raw (by omega) (by omega)
  with_reducible refine Post.mono k26 ?_
  clear k26
  rintro _ u24 g25 ⟨i22, rfl, h23⟩
  refine sy_call 24 67 [i17.v, j12.v] ?_
  intro w27 u27 e27 d27
  have k32 := k_riMul d27 (hi17.ext (e21.trans (g25.ext.trans e27))) (hj12.ext (e16.trans (g19.ext.trans (e21.trans (g25.ext.trans e27))))).raw (by omega) (by omega)
  with_reducible refine Post.mono k32 ?_
  clear k32
  rintro _ u30 g31 ⟨i28, rfl, h29⟩
  refine sy_call 25 66 [i22.v, i28.v] ?_
  intro w33 u33 e33 d33
  have k38 := k_riAdd d33 (h23.ext (e27.trans (g31.ext.trans e33))).raw (h29.ext e33).raw (by omega) (by omega)
  with_reducible refine Post.mono k38 ?_
  clear k38
  rintro _ u36 g37 ⟨i34, rfl, h35⟩
  refine sy_call 28 67 [j12.v, j17.v] ?_
  intro w39 u39 e39 d39
  have k44 := k_riMul d39 (hj12.ext (e16.trans (g19.ext.trans (e21.trans (g25.ext.trans (e27.trans (g31.ext.trans (e33.trans (g37.ext.trans e39))))))))).raw (hj17.ext (e21.trans (g25.ext.trans (e27.trans (g31.ext.trans (e33.trans (g37.ext.trans e39))))))).raw (by omega) (by omega)
  with_reducible refine Post.mono k44 ?_
  clear k44
  rintro _ u42 g43 ⟨i40, rfl, h41⟩
  refine sy_call 29 65 [i34.v, i40.v] ?_
  intro w45 u45 e45 d45
  have k50 := k_reduce d45 (h35.ext (e39.trans (g43.ext.trans e45))).raw (h41.ext e45).raw (by omega) (by omega)
  with_reducible refine Post.mono k50 ?_
  clear k50
  rintro _ u48 g49 ⟨r46, rfl, h47⟩
  refine sy_store ⟨26, r46.cs⟩ ty26 ?_
  refine sy_next 30 [(4, .adr 4 0)] [(4, ⟨26, r46.cs⟩)] ?_
  refine sw_ret (ret0 [r46.v] ⟨res_cell ty26 part_agg, trivial⟩ fun u51 e52 => ?_)
  refine ⟨r46, rfl, RatN.more (K := (max (max (K + L) (L + K) + 1) (K + L) + 1)) ?_ (by omega)⟩
  rw [hq12, hq17, ← Nt.add_div2 hp12 hp17]
  exact (h47.ext e52)
theorem k_rqSub {u w : World} {r1 : RL} {x : Rat} {K : Nat} {r2 : RL} {y : Rat} {L : Nat} (d : Dat u w) (hr1 : RatV u r1 x K) (hr2 : RatV u r2 y L) (hK : K ≤ 100000000) (hL : L ≤ 100000000) : Calls Try.prog 68 #[r1.v, r2.v] w (Post u w fun v u' => ∃ r : RL, v = r.v ∧ RatN u' r (x - y) (K + L + 2)) := by
  refine calls_sym (args := [r1.v, r2.v]) Try.func68 rfl Try.ntmps68 (rs := [.cell 4 26]) Try.results68 (le_b rfl) (le_b rfl) d ?_
  refine sw_seq ?_
  refine sw_reg ?_
  refine sy_new 2 ⟨26, r1.cs⟩ ?_
  refine sy_new 3 ⟨26, r2.cs⟩ ?_
  refine sy_new 4 ⟨26, [.bool false, .slice none 0 0, .slice none 0 0]⟩ ?_
  refine sy_next 9 [(2, .adr 2 0), (3, .adr 3 0), (4, .adr 4 0)] [(2, ⟨26, r1.cs⟩), (3, ⟨26, r2.cs⟩), (4, ⟨26, [.bool false, .slice none 0 0, .slice none 0 0]⟩)] ?_
  refine sw_seq ?_
  refine sw_any [0, 0, 2, 7, 15] [(0, []), (1, []), (2, []), (3, []), (4, [])] (by kernel_rfl) (by kernel_rfl) ?_
  refine sy_ldv 5 (.v (r1.v)) ty26 part_agg ?_
  refine sy_ldv 6 (.v (r2.v)) ty26 part_agg ?_
  refine sy_call 7 106 [r2.v] ?_
  intro w11 u11 e11 d11
  have k16 := k_rqNeg d11 (hr2.ext e11) (by omega)
  with_reducible refine Post.mono k16 ?_
  clear k16
  rintro _ u14 g15 ⟨r12, rfl, h13⟩
  refine sy_call 8 34 [r1.v, r12.v] ?_
  intro w17 u17 e17 d17
  have k22 := k_rqAdd d17 (hr1.ext (e11.trans (g15.ext.trans e17))) (h13.ext e17).raw (by omega) (by omega)
  with_reducible refine Post.mono k22 ?_
  clear k22
  rintro _ u20 g21 ⟨r18, rfl, h19⟩
  refine sy_store ⟨26, r18.cs⟩ ty26 ?_
  refine sy_next 9 [(4, .adr 4 0)] [(4, ⟨26, r18.cs⟩)] ?_
  refine sw_ret (ret0 [r18.v] ⟨res_cell ty26 part_agg, trivial⟩ fun u23 e24 => ?_)
  refine ⟨r18, rfl, RatN.more (K := (K + L + 2)) ?_ (by omega)⟩
  rw [Rat.sub_eq_add_neg]
  exact (h19.ext e24)
theorem k_rqMul {u w : World} {r1 : RL} {x : Rat} {K : Nat} {r2 : RL} {y : Rat} {L : Nat} (d : Dat u w) (hr1 : RatV u r1 x K) (hr2 : RatV u r2 y L) (hK : K ≤ 100000000) (hL : L ≤ 100000000) : Calls Try.prog 35 #[r1.v, r2.v] w (Post u w fun v u' => ∃ r : RL, v = r.v ∧ RatN u' r (x * y) (K + L + 1)) := by
  refine calls_sym (args := [r1.v, r2.v]) Try.func35 rfl Try.ntmps35 (rs := [.cell 4 26]) Try.results35 (le_b rfl) (le_b rfl) d ?_
  refine sw_seq ?_
  refine sw_reg ?_
  refine sy_new 2 ⟨26, r1.cs⟩ ?_
  refine sy_new 3 ⟨26, r2.cs⟩ ?_
  refine sy_new 4 ⟨26, [.bool false, .slice none 0 0, .slice none 0 0]⟩ ?_
  refine sy_next 26 [(2, .adr 2 0), (3, .adr 3 0), (4, .adr 4 0)] [(2, ⟨26, r1.cs⟩), (3, ⟨26, r2.cs⟩), (4, ⟨26, [.bool false, .slice none 0 0, .slice none 0 0]⟩)] ?_
  refine sw_seq ?_
  refine sw_reg ?_
  refine sy_ldv 10 (.v (r1.v)) ty26 part_agg ?_
  refine sy_call 11 64 [r1.v] ?_
  intro w11 u11 e11 d11
  have k15 := k_parts d11 (hr1.ext e11) (by omega)
  with_reducible refine Post.mono k15 ?_
  clear k15
  rintro _ u13 g14 ⟨i12, j12, z12, D12, rfl, hi12, hj12, hp12, hq12, hk12⟩
  refine sy_pure 9 (.v (.tuple #[i12.v, j12.v])) ?_
  refine sy_pure 12 (.v (i12.v)) ?_
  refine sy_pure 13 (.v (j12.v)) ?_
  refine sy_new 5 ⟨24, [.bool false, .slice none 0 0]⟩ ?_
  refine sy_new 6 ⟨24, [.bool false, .slice none 0 0]⟩ ?_
  refine sy_store ⟨24, i12.cs⟩ ty24 ?_
  refine sy_store ⟨24, j12.cs⟩ ty24 ?_
  refine sy_next 26 [(3, .adr 3 0), (4, .adr 4 0), (5, .adr 5 0), (6, .adr 6 0)] [(3, ⟨26, r2.cs⟩), (4, ⟨26, [.bool false, .slice none 0 0, .slice none 0 0]⟩), (5, ⟨24, i12.cs⟩), (6, ⟨24, j12.cs⟩)] ?_
  refine sw_seq ?_
  refine sw_reg ?_
  refine sy_ldv 15 (.v (r2.v)) ty26 part_agg ?_
  refine sy_call 16 64 [r2.v] ?_
  intro w16 u16 e16 d16
  have k20 := k_parts d16 (hr2.ext (e11.trans (g14.ext.trans e16))) (by omega)
  with_reducible refine Post.mono k20 ?_
  clear k20
  rintro _ u18 g19 ⟨i17, j17, z17, D17, rfl, hi17, hj17, hp17, hq17, hk17⟩
  refine sy_pure 14 (.v (.tuple #[i17.v, j17.v])) ?_
  refine sy_pure 17 (.v (i17.v)) ?_
  refine sy_pure 18 (.v (j17.v)) ?_
  refine sy_new 7 ⟨24, [.bool false, .slice none 0 0]⟩ ?_
  refine sy_new 8 ⟨24, [.bool false, .slice none 0 0]⟩ ?_
  refine sy_store ⟨24, i17.cs⟩ ty24 ?_
  refine sy_store ⟨24, j17.cs⟩ ty24 ?_
  refine sy_next 26 [(4, .adr 4 0), (5, .adr 5 0), (6, .adr 6 0), (7, .adr 7 0), (8, .adr 8 0)] [(4, ⟨26, [.bool false, .slice none 0 0, .slice none 0 0]⟩), (5, ⟨24, i12.cs⟩), (6, ⟨24, j12.cs⟩), (7, ⟨24, i17.cs⟩), (8, ⟨24, j17.cs⟩)] ?_
  refine sw_seq ?_
  refine sw_any [0, 0, 3, 0, 0, 31, 63, 127] [(0, []), (1, []), (3, []), (4, []), (2, []), (5, []), (6, []), (7, [])] (by kernel_rfl) (by kernel_rfl) ?_
  refine sy_ldv 19 (.v (i12.v)) ty24 part_agg ?_
  refine sy_ldv 20 (.v (i17.v)) ty24 part_agg ?_
  refine sy_ldv 22 (.v (j12.v)) ty24 part_agg ?_
  refine sy_ldv 23 (.v (j17.v)) ty24 part_agg ?_
  refine sy_call 21 67 [i12.v, i17.v] ?_
  intro w21 u21 e21 d21
  have k26 := k_riMul d21 (hi12.ext (e16.trans (g19.ext.trans e21))) (hi17.ext e21) (by omega) (by omega)
  with_reducible refine Post.mono k26 ?_
  clear k26
  rintro _ u24 g25 ⟨i22, rfl, h23⟩
  refine sy_call 24 67 [j12.v, j17.v] ?_
  intro w27 u27 e27 d27
  have k32 := k_riMul d27 (hj12.ext (e16.trans (g19.ext.trans (e21.trans (g25.ext.trans e27))))).raw (hj17.ext (e21.trans (g25.ext.trans e27))).raw (by omega) (by omega)
  with_reducible refine Post.mono k32 ?_
  clear k32
  rintro _ u30 g31 ⟨i28, rfl, h29⟩
  refine sy_call 25 65 [i22.v, i28.v] ?_
  intro w33 u33 e33 d33
  have k38 := k_reduce d33 (h23.ext (e27.trans (g31.ext.trans e33))).raw (h29.ext e33).raw (by omega) (by omega)
  with_reducible refine Post.mono k38 ?_
  clear k38
  rintro _ u36 g37 ⟨r34, rfl, h35⟩
  refine sy_store ⟨26, r34.cs⟩ ty26 ?_
  refine sy_next 26 [(4, .adr 4 0)] [(4, ⟨26, r34.cs⟩)] ?_
  refine sw_ret (ret0 [r34.v] ⟨res_cell ty26 part_agg, trivial⟩ fun u39 e40 => ?_)
  refine ⟨r34, rfl, RatN.more (K := (max (K + L) (K + L) + 1)) ?_ (by omega)⟩
  rw [hq12, hq17, ← Nt.mul_div2]
  exact (h35.ext e40)
theorem k_rqMin {u w : World} {r1 : RL} {x : Rat} {K : Nat} {r2 : RL} {y : Rat} {L : Nat} (d : Dat u w) (hr1 : RatV u r1 x K) (hr2 : RatV u r2 y L) (hK : K ≤ 100000000) (hL : L ≤ 100000000) : Calls Try.prog 62 #[r1.v, r2.v] w (Post u w fun v u' => ∃ r : RL, v = r.v ∧ RatN u' r (Nt.lo x y) (max K L)) := by
  refine calls_sym (args := [r1.v, r2.v]) Try.func62 rfl Try.ntmps62 (rs := [.cell 4 26]) Try.results62 (le_b rfl) (le_b rfl) d ?_
  refine sw_seq ?_
  refine sw_reg ?_
  refine sy_new 2 ⟨26, r1.cs⟩ ?_
  refine sy_new 3 ⟨26, r2.cs⟩ ?_
  refine sy_new 4 ⟨26, [.bool false, .slice none 0 0, .slice none 0 0]⟩ ?_
  refine sy_next 12 [(2, .adr 2 0), (3, .adr 3 0), (4, .adr 4 0)] [(2, ⟨26, r1.cs⟩), (3, ⟨26, r2.cs⟩), (4, ⟨26, [.bool false, .slice none 0 0, .slice none 0 0]⟩)] ?_
  refine sw_seq ?_
  refine sw_seq ?_
  refine sw_reg ?_
  refine sy_ldv 5 (.v (r2.v)) ty26 part_agg ?_
  refine sy_ldv 6 (.v (r1.v)) ty26 part_agg ?_
  refine sy_call 7 96 [r2.v, r1.v] ?_
  intro w11 u11 e11 d11
  have k14 := k_rqLess d11 (hr2.ext e11) (hr1.ext e11) (by omega) (by omega)
  with_reducible refine Post.mono k14 ?_
  clear k14
  rintro _ u12 g13 rfl
  refine sy_next 12 [(2, .adr 2 0), (3, .adr 3 0), (4, .adr 4 0), (7, .v (.bool (decide (y < x))))] [(2, ⟨26, r1.cs⟩), (3, ⟨26, r2.cs⟩), (4, ⟨26, [.bool false, .slice none 0 0, .slice none 0 0]⟩)] ?_
  refine sw_cond (b := decide (y < x)) (by kernel_rfl) (fun hb15 => ?_) (fun hb15 => ?_)
  · replace hb15 : (decide (y < x)) = true := hb15
    have qhb15 := of_decide_eq_true hb15
    refine sw_seq ?_
    refine sw_reg ?_
    refine sy_ldv 8 (.v (r2.v)) ty26 part_agg ?_
    refine sy_call 9 83 [r2.v] ?_
    intro w16 u16 e16 d16
    have k21 := k_rqTrim d16 (hr2.ext (e11.trans (g13.ext.trans e16))) (by omega)
    with_reducible refine Post.mono k21 ?_
    clear k21
    rintro _ u19 g20 ⟨r17, rfl, h18⟩
    refine sy_store ⟨26, r17.cs⟩ ty26 ?_
    refine sy_next 12 [(4, .adr 4 0)] [(4, ⟨26, r17.cs⟩)] ?_
    refine sw_ret (mpr_seq (ret0 [r17.v] ⟨res_cell ty26 part_agg, trivial⟩ fun u22 e23 => ?_))
    refine ⟨r17, rfl, RatN.more (K := L) ?_ (by omega)⟩
    unfold Nt.lo
    rw [if_pos (of_decide_eq_true hb15)]
    exact (h18.ext e23)
  · replace hb15 : (decide (y < x)) = false := hb15
    have qhb15 := of_decide_eq_false hb15
    refine sw_skip (mp_seq ?_)
    refine sw_seq ?_
    refine sw_reg ?_
    refine sy_ldv 10 (.v (r1.v)) ty26 part_agg ?_
    refine sy_call 11 83 [r1.v] ?_
    intro w24 u24 e24 d24
    have k29 := k_rqTrim d24 (hr1.ext (e11.trans (g13.ext.trans e24))) (by omega)
    with_reducible refine Post.mono k29 ?_
    clear k29
    rintro _ u27 g28 ⟨r25, rfl, h26⟩
    refine sy_store ⟨26, r25.cs⟩ ty26 ?_
    refine sy_next 12 [(4, .adr 4 0)] [(4, ⟨26, r25.cs⟩)] ?_
    refine sw_ret (ret0 [r25.v] ⟨res_cell ty26 part_agg, trivial⟩ fun u30 e31 => ?_)
    refine ⟨r25, rfl, RatN.more (K := K) ?_ (by omega)⟩
    unfold Nt.lo
    rw [if_neg (of_decide_eq_false hb15)]
    exact (h26.ext e31)
theorem k_rqMax {u w : World} {r1 : RL} {x : Rat} {K : Nat} {r2 : RL} {y : Rat} {L : Nat} (d : Dat u w) (hr1 : RatV u r1 x K) (hr2 : RatV u r2 y L) (hK : K ≤ 100000000) (hL : L ≤ 100000000) : Calls Try.prog 63 #[r1.v, r2.v] w (Post u w fun v u' => ∃ r : RL, v = r.v ∧ RatN u' r (Nt.hi x y) (max K L)) := by
  refine calls_sym (args := [r1.v, r2.v]) Try.func63 rfl Try.ntmps63 (rs := [.cell 4 26]) Try.results63 (le_b rfl) (le_b rfl) d ?_
  refine sw_seq ?_
  refine sw_reg ?_
  refine sy_new 2 ⟨26, r1.cs⟩ ?_
  refine sy_new 3 ⟨26, r2.cs⟩ ?_
  refine sy_new 4 ⟨26, [.bool false, .slice none 0 0, .slice none 0 0]⟩ ?_
  refine sy_next 12 [(2, .adr 2 0), (3, .adr 3 0), (4, .adr 4 0)] [(2, ⟨26, r1.cs⟩), (3, ⟨26, r2.cs⟩), (4, ⟨26, [.bool false, .slice none 0 0, .slice none 0 0]⟩)] ?_
  refine sw_seq ?_
  refine sw_seq ?_
  refine sw_reg ?_
  refine sy_ldv 5 (.v (r1.v)) ty26 part_agg ?_
  refine sy_ldv 6 (.v (r2.v)) ty26 part_agg ?_
  refine sy_call 7 96 [r1.v, r2.v] ?_
  intro w11 u11 e11 d11
  have k14 := k_rqLess d11 (hr1.ext e11) (hr2.ext e11) (by omega) (by omega)
  with_reducible refine Post.mono k14 ?_
  clear k14
  rintro _ u12 g13 rfl
  refine sy_next 12 [(2, .adr 2 0), (3, .adr 3 0), (4, .adr 4 0), (7, .v (.bool (decide (x < y))))] [(2, ⟨26, r1.cs⟩), (3, ⟨26, r2.cs⟩), (4, ⟨26, [.bool false, .slice none 0 0, .slice none 0 0]⟩)] ?_
  refine sw_cond (b := decide (x < y)) (by kernel_rfl) (fun hb15 => ?_) (fun hb15 => ?_)
  · replace hb15 : (decide (x < y)) = true := hb15
    have qhb15 := of_decide_eq_true hb15
    refine sw_seq ?_
    refine sw_reg ?_
    refine sy_ldv 8 (.v (r2.v)) ty26 part_agg ?_
    refine sy_call 9 83 [r2.v] ?_
    intro w16 u16 e16 d16
    have k21 := k_rqTrim d16 (hr2.ext (e11.trans (g13.ext.trans e16))) (by omega)
    with_reducible refine Post.mono k21 ?_
    clear k21
    rintro _ u19 g20 ⟨r17, rfl, h18⟩
    refine sy_store ⟨26, r17.cs⟩ ty26 ?_
    refine sy_next 12 [(4, .adr 4 0)] [(4, ⟨26, r17.cs⟩)] ?_
    refine sw_ret (mpr_seq (ret0 [r17.v] ⟨res_cell ty26 part_agg, trivial⟩ fun u22 e23 => ?_))
    refine ⟨r17, rfl, RatN.more (K := L) ?_ (by omega)⟩
    unfold Nt.hi
    rw [if_pos (of_decide_eq_true hb15)]
    exact (h18.ext e23)
  · replace hb15 : (decide (x < y)) = false := hb15
    have qhb15 := of_decide_eq_false hb15
    refine sw_skip (mp_seq ?_)
    refine sw_seq ?_
    refine sw_reg ?_
    refine sy_ldv 10 (.v (r1.v)) ty26 part_agg ?_
    refine sy_call 11 83 [r1.v] ?_
    intro w24 u24 e24 d24
    have k29 := k_rqTrim d24 (hr1.ext (e11.trans (g13.ext.trans e24))) (by omega)
    with_reducible refine Post.mono k29 ?_
    clear k29
    rintro _ u27 g28 ⟨r25, rfl, h26⟩
    refine sy_store ⟨26, r25.cs⟩ ty26 ?_
    refine sy_next 12 [(4, .adr 4 0)] [(4, ⟨26, r25.cs⟩)] ?_
    refine sw_ret (ret0 [r25.v] ⟨res_cell ty26 part_agg, trivial⟩ fun u30 e31 => ?_)
    refine ⟨r25, rfl, RatN.more (K := K) ?_ (by omega)⟩
    unfold Nt.hi
    rw [if_neg (of_decide_eq_false hb15)]
    exact (h26.ext e31)
end Go.Proofs.Ytnedhbidmfoegaa
namespace Go.Proofs.Ytnedhbidmfoegaa
open Go.RowKit
set_option linter.unusedVariables false
namespace Nt
theorem cmpQ_gt (x y : Rat) : decide ((0 : Int) < cmpQ x y) = decide (y < x) := by
  unfold cmpQ
  rw [decide_eq_decide]
  split
  · constructor
    · intro h; simp at h
    · intro h; grind
  · split
    · constructor
      · intro h; simp at h
      · intro h; grind
    · constructor
      · intro h; grind
      · intro h; simp
theorem cmpQ_le (x y : Rat) : decide (cmpQ x y ≤ (0 : Int)) = decide (x ≤ y) := by
  unfold cmpQ
  rw [decide_eq_decide]
  split
  · constructor
    · intro h; grind
    · intro h; simp
  · split
    · constructor
      · intro h; grind
      · intro h; simp
    · constructor
      · intro h; simp at h
      · intro h; grind
theorem sgQ_gt (x : Rat) : decide ((0 : Int) < sgQ x) = decide (0 < x) := cmpQ_gt x 0
theorem sgQ_lt (x : Rat) : decide (sgQ x < (0 : Int)) = decide (x < 0) := cmpQ_lt x 0
theorem ends_gt {x y : Rat} (h : decide ((0 : Int) < cmpQ x y) = true) : lo x y = y ∧ hi x y = x := by
  rw [cmpQ_gt] at h
  have h := of_decide_eq_true h
  unfold lo hi
  exact ⟨if_pos h, if_neg (by grind)⟩
theorem ends_le {x y : Rat} (h : decide ((0 : Int) < cmpQ x y) = false) : lo x y = x ∧ hi x y = y := by
  rw [cmpQ_gt] at h
  have h := of_decide_eq_false h
  unfold lo hi
  refine ⟨if_neg h, ?_⟩
  split
  · rfl
  · grind
theorem lesser_lt {x y : Rat} (h : decide (cmpQ y x < (0 : Int)) = true) : lo x y = y := by
  rw [cmpQ_lt] at h
  exact if_pos (of_decide_eq_true h)
theorem lesser_ge {x y : Rat} (h : decide (cmpQ y x < (0 : Int)) = false) : lo x y = x := by
  rw [cmpQ_lt] at h
  exact if_neg (of_decide_eq_false h)
theorem greater_gt {x y : Rat} (h : decide ((0 : Int) < cmpQ y x) = true) : hi x y = y := by
  rw [cmpQ_gt] at h
  exact if_pos (of_decide_eq_true h)
theorem greater_le {x y : Rat} (h : decide ((0 : Int) < cmpQ y x) = false) : hi x y = x := by
  rw [cmpQ_gt] at h
  exact if_neg (of_decide_eq_false h)
theorem lo_le_hi (x y : Rat) : lo x y ≤ hi x y := by unfold lo hi; grind
theorem lo_of_le {x y : Rat} (h : x ≤ y) : lo x y = x ∧ hi x y = y := by unfold lo hi; grind
/-- Whether x lies in the interval with the ends a, b. -/
def inI (a b x : Rat) : Bool := decide (lo a b ≤ x) && decide (x ≤ hi a b)
/-- The sign of an interval. -/
def sgI (a b : Rat) : Int := if 0 < lo a b then 1 else if hi a b < 0 then -1 else 0
/-- The least, the greatest of four. -/
def lo4 (a b c d : Rat) : Rat := lo (lo (lo a b) c) d
def hi4 (a b c d : Rat) : Rat := hi (hi (hi a b) c) d
end Nt
section
variable {u u' w w' : World} {x y : Sl} {i j : IL} {r r' : RL} {N M K L : Nat} {z z' : Int} {q q' : Rat}
theorem k_cloneN (d : Dat u w) (h : NatN u x N K) (hK : K ≤ 500000000) : Calls Try.prog 118 #[x.v] w (Post u w fun v u' => ∃ y : Sl, v = y.v ∧ NatN u' y N K) := by
  obtain ⟨h1, h2, h3⟩ := h
  refine (CloneU_any _ _ _ _ _ (h2.ext d.ext) (by omega)).mono fun e w' ⟨A', c', he, f, g, hb⟩ => ?_
  have hs : u.heap.size ≤ w'.heap.size := by rw [d.size]; exact hb.size
  exact ⟨_, over u w', he, over_dat d hb, hb, over_grow hs, ⟨A', x.n, c'⟩, rfl, h1, f.over (fun hp => by obtain ⟨a, e, k, _⟩ := g hp; exact ⟨a, e, by rw [d.size]; exact k⟩) hs, h3⟩
theorem own_rat {m e : Sl} (h : RatN u r q K) (h1 : NatN u' m q.num.natAbs K) (h2 : NatN u' e q.den K) : RatN u' ⟨r.s, m, e⟩ q K := ⟨⟨h.1.1, h1⟩, h2⟩
end
end Go.Proofs.Ytnedhbidmfoegaa
namespace Go.Proofs.Ytnedhbidmfoegaa
open Go.RowKit
set_option linter.unusedVariables false
theorem k_ends {u w : World} {a1 a2 : RL} {x1 x2 : Rat} {K : Nat} (d : Dat u w) (ha1 : RatV u a1 x1 K) (ha2 : RatV u a2 x2 K) (hK : K ≤ 200000000) : Calls Try.prog 39 #[IV a1 a2] w (Post u w fun v u' => ∃ p q : RL, v = .tuple #[p.v, q.v] ∧ RatV u' p (Nt.lo x1 x2) K ∧ RatV u' q (Nt.hi x1 x2) K) := by
  refine calls_sym (args := [.agg #[.bool a1.s, .slice a1.m.a a1.m.n a1.m.c, .slice a1.d.a a1.d.n a1.d.c, .bool a2.s, .slice a2.m.a a2.m.n a2.m.c, .slice a2.d.a a2.d.n a2.d.c]]) Try.func39 rfl Try.ntmps39 (rs := [.cell 2 26, .cell 3 26]) Try.results39 (le_b rfl) (le_b rfl) d ?_
  refine sw_seq ?_
  refine sw_reg ?_
  refine sy_new 1 ⟨28, a1.cs ++ a2.cs⟩ ?_
  refine sy_new 2 ⟨26, [.bool false, .slice none 0 0, .slice none 0 0]⟩ ?_
  refine sy_new 3 ⟨26, [.bool false, .slice none 0 0, .slice none 0 0]⟩ ?_
  refine sy_next 18 [(1, .adr 1 0), (2, .adr 2 0), (3, .adr 3 0)] [(1, ⟨28, a1.cs ++ a2.cs⟩), (2, ⟨26, [.bool false, .slice none 0 0, .slice none 0 0]⟩), (3, ⟨26, [.bool false, .slice none 0 0, .slice none 0 0]⟩)] ?_
  refine sw_seq ?_
  refine sw_seq ?_
  refine sw_reg ?_
  refine sy_pure 4 (.adr 1 0) ?_
  refine sy_ldv 5 (.v (a1.v)) ty26 part_agg ?_
  refine sy_pure 6 (.adr 1 3) ?_
  refine sy_ldv 7 (.v (a2.v)) ty26 part_agg ?_
  refine sy_call 8 42 [a1.v, a2.v] ?_
  intro w11 u11 e11 d11
  have k14 := k_ratCompare d11 (ha1.ext e11) (ha2.ext e11) (by omega) (by omega)
  with_reducible refine Post.mono k14 ?_
  clear k14
  rintro _ u12 g13 rfl
  refine sy_pure 9 (.v (.bool (decide ((0 : Int) < (Nt.cmpQ x1 x2))))) ?_
  refine sy_next 18 [(1, .adr 1 0), (2, .adr 2 0), (3, .adr 3 0), (9, .v (.bool (decide ((0 : Int) < (Nt.cmpQ x1 x2)))))] [(1, ⟨28, a1.cs ++ a2.cs⟩), (2, ⟨26, [.bool false, .slice none 0 0, .slice none 0 0]⟩), (3, ⟨26, [.bool false, .slice none 0 0, .slice none 0 0]⟩)] ?_
  refine sw_cond (b := decide ((0 : Int) < (Nt.cmpQ x1 x2))) (by kernel_rfl) (fun hb15 => ?_) (fun hb15 => ?_)
  · replace hb15 : (decide ((0 : Int) < (Nt.cmpQ x1 x2))) = true := hb15
    have qhb15 := of_decide_eq_true hb15
    refine sw_seq ?_
    refine sw_any [0, 1, 0, 4, 3, 31] [(0, []), (1, []), (2, []), (3, []), (4, [12]), (5, [])] (by kernel_rfl) (by kernel_rfl) ?_
    refine sy_pure 10 (.adr 1 3) ?_
    refine sy_ldv 11 (.v (a2.v)) ty26 part_agg ?_
    refine sy_pure 12 (.adr 1 0) ?_
    refine sy_ldv 13 (.v (a1.v)) ty26 part_agg ?_
    refine sy_store ⟨26, a2.cs⟩ ty26 ?_
    refine sy_store ⟨26, a1.cs⟩ ty26 ?_
    refine sy_next 18 [(2, .adr 2 0), (3, .adr 3 0)] [(2, ⟨26, a2.cs⟩), (3, ⟨26, a1.cs⟩)] ?_
    refine sw_ret (mpr_seq (ret0 [a2.v, a1.v] ⟨res_cell ty26 part_agg, res_cell ty26 part_agg, trivial⟩ fun u16 e17 => ?_))
    refine ⟨a2, a1, rfl, ?_, ?_⟩
    · rw [(Nt.ends_gt hb15).1]; exact (ha2.ext (e11.trans (g13.ext.trans e17)))
    · rw [(Nt.ends_gt hb15).2]; exact (ha1.ext (e11.trans (g13.ext.trans e17)))
  · replace hb15 : (decide ((0 : Int) < (Nt.cmpQ x1 x2))) = false := hb15
    have qhb15 := of_decide_eq_false hb15
    refine sw_skip (mp_seq ?_)
    refine sw_seq ?_
    refine sw_any [0, 1, 0, 4, 3, 31] [(0, []), (1, []), (2, []), (3, []), (4, [16]), (5, [])] (by kernel_rfl) (by kernel_rfl) ?_
    refine sy_pure 14 (.adr 1 0) ?_
    refine sy_ldv 15 (.v (a1.v)) ty26 part_agg ?_
    refine sy_pure 16 (.adr 1 3) ?_
    refine sy_ldv 17 (.v (a2.v)) ty26 part_agg ?_
    refine sy_store ⟨26, a1.cs⟩ ty26 ?_
    refine sy_store ⟨26, a2.cs⟩ ty26 ?_
    refine sy_next 18 [(2, .adr 2 0), (3, .adr 3 0)] [(2, ⟨26, a1.cs⟩), (3, ⟨26, a2.cs⟩)] ?_
    refine sw_ret (ret0 [a1.v, a2.v] ⟨res_cell ty26 part_agg, res_cell ty26 part_agg, trivial⟩ fun u18 e19 => ?_)
    refine ⟨a1, a2, rfl, ?_, ?_⟩
    · rw [(Nt.ends_le hb15).1]; exact (ha1.ext (e11.trans (g13.ext.trans e19)))
    · rw [(Nt.ends_le hb15).2]; exact (ha2.ext (e11.trans (g13.ext.trans e19)))
theorem k_lesserV {u w : World} {a : RL} {x : Rat} {b : RL} {y : Rat} {K : Nat} (d : Dat u w) (ha : RatV u a x K) (hb : RatV u b y K) (hK : K ≤ 200000000) : Calls Try.prog 41 #[a.v, b.v] w (Post u w fun v u' => ∃ p : RL, v = p.v ∧ RatV u' p (Nt.lo x y) K) := by
  refine calls_sym (args := [a.v, b.v]) Try.func41 rfl Try.ntmps41 (rs := [.cell 4 26]) Try.results41 (le_b rfl) (le_b rfl) d ?_
  refine sw_seq ?_
  refine sw_reg ?_
  refine sy_new 2 ⟨26, a.cs⟩ ?_
  refine sy_new 3 ⟨26, b.cs⟩ ?_
  refine sy_new 4 ⟨26, [.bool false, .slice none 0 0, .slice none 0 0]⟩ ?_
  refine sy_next 11 [(2, .adr 2 0), (3, .adr 3 0), (4, .adr 4 0)] [(2, ⟨26, a.cs⟩), (3, ⟨26, b.cs⟩), (4, ⟨26, [.bool false, .slice none 0 0, .slice none 0 0]⟩)] ?_
  refine sw_seq ?_
  refine sw_seq ?_
  refine sw_reg ?_
  refine sy_ldv 5 (.v (b.v)) ty26 part_agg ?_
  refine sy_ldv 6 (.v (a.v)) ty26 part_agg ?_
  refine sy_call 7 42 [b.v, a.v] ?_
  intro w11 u11 e11 d11
  have k14 := k_ratCompare d11 (hb.ext e11) (ha.ext e11) (by omega) (by omega)
  with_reducible refine Post.mono k14 ?_
  clear k14
  rintro _ u12 g13 rfl
  refine sy_pure 8 (.v (.bool (decide ((Nt.cmpQ y x) < 0)))) ?_
  refine sy_next 11 [(2, .adr 2 0), (3, .adr 3 0), (4, .adr 4 0), (8, .v (.bool (decide ((Nt.cmpQ y x) < 0))))] [(2, ⟨26, a.cs⟩), (3, ⟨26, b.cs⟩), (4, ⟨26, [.bool false, .slice none 0 0, .slice none 0 0]⟩)] ?_
  refine sw_cond (b := decide ((Nt.cmpQ y x) < 0)) (by kernel_rfl) (fun hb15 => ?_) (fun hb15 => ?_)
  · replace hb15 : (decide ((Nt.cmpQ y x) < 0)) = true := hb15
    have qhb15 := of_decide_eq_true hb15
    refine sw_seq ?_
    refine sw_reg ?_
    refine sy_ldv 9 (.v (b.v)) ty26 part_agg ?_
    refine sy_store ⟨26, b.cs⟩ ty26 ?_
    refine sy_next 11 [(4, .adr 4 0)] [(4, ⟨26, b.cs⟩)] ?_
    refine sw_ret (mpr_seq (ret0 [b.v] ⟨res_cell ty26 part_agg, trivial⟩ fun u16 e17 => ?_))
    refine ⟨b, rfl, ?_⟩
    rw [Nt.lesser_lt hb15]
    exact (hb.ext (e11.trans (g13.ext.trans e17)))
  · replace hb15 : (decide ((Nt.cmpQ y x) < 0)) = false := hb15
    have qhb15 := of_decide_eq_false hb15
    refine sw_skip (mp_seq ?_)
    refine sw_seq ?_
    refine sw_reg ?_
    refine sy_ldv 10 (.v (a.v)) ty26 part_agg ?_
    refine sy_store ⟨26, a.cs⟩ ty26 ?_
    refine sy_next 11 [(4, .adr 4 0)] [(4, ⟨26, a.cs⟩)] ?_
    refine sw_ret (ret0 [a.v] ⟨res_cell ty26 part_agg, trivial⟩ fun u18 e19 => ?_)
    refine ⟨a, rfl, ?_⟩
    rw [Nt.lesser_ge hb15]
    exact (ha.ext (e11.trans (g13.ext.trans e19)))
theorem k_lesserN {u w : World} {a : RL} {x : Rat} {b : RL} {y : Rat} {K : Nat} (d : Dat u w) (ha : RatN u a x K) (hb : RatN u b y K) (hK : K ≤ 200000000) : Calls Try.prog 41 #[a.v, b.v] w (Post u w fun v u' => ∃ p : RL, v = p.v ∧ RatN u' p (Nt.lo x y) K) := by
  refine calls_sym (args := [a.v, b.v]) Try.func41 rfl Try.ntmps41 (rs := [.cell 4 26]) Try.results41 (le_b rfl) (le_b rfl) d ?_
  refine sw_seq ?_
  refine sw_reg ?_
  refine sy_new 2 ⟨26, a.cs⟩ ?_
  refine sy_new 3 ⟨26, b.cs⟩ ?_
  refine sy_new 4 ⟨26, [.bool false, .slice none 0 0, .slice none 0 0]⟩ ?_
  refine sy_next 11 [(2, .adr 2 0), (3, .adr 3 0), (4, .adr 4 0)] [(2, ⟨26, a.cs⟩), (3, ⟨26, b.cs⟩), (4, ⟨26, [.bool false, .slice none 0 0, .slice none 0 0]⟩)] ?_
  refine sw_seq ?_
  refine sw_seq ?_
  refine sw_reg ?_
  refine sy_ldv 5 (.v (b.v)) ty26 part_agg ?_
  refine sy_ldv 6 (.v (a.v)) ty26 part_agg ?_
  refine sy_call 7 42 [b.v, a.v] ?_
  intro w11 u11 e11 d11
  have k14 := k_ratCompare d11 (hb.ext e11).raw (ha.ext e11).raw (by omega) (by omega)
  with_reducible refine Post.mono k14 ?_
  clear k14
  rintro _ u12 g13 rfl
  refine sy_pure 8 (.v (.bool (decide ((Nt.cmpQ y x) < 0)))) ?_
  refine sy_next 11 [(2, .adr 2 0), (3, .adr 3 0), (4, .adr 4 0), (8, .v (.bool (decide ((Nt.cmpQ y x) < 0))))] [(2, ⟨26, a.cs⟩), (3, ⟨26, b.cs⟩), (4, ⟨26, [.bool false, .slice none 0 0, .slice none 0 0]⟩)] ?_
  refine sw_cond (b := decide ((Nt.cmpQ y x) < 0)) (by kernel_rfl) (fun hb15 => ?_) (fun hb15 => ?_)
  · replace hb15 : (decide ((Nt.cmpQ y x) < 0)) = true := hb15
    have qhb15 := of_decide_eq_true hb15
    refine sw_seq ?_
    refine sw_reg ?_
    refine sy_ldv 9 (.v (b.v)) ty26 part_agg ?_
    refine sy_store ⟨26, b.cs⟩ ty26 ?_
    refine sy_next 11 [(4, .adr 4 0)] [(4, ⟨26, b.cs⟩)] ?_
    refine sw_ret (mpr_seq (ret0 [b.v] ⟨res_cell ty26 part_agg, trivial⟩ fun u16 e17 => ?_))
    refine ⟨b, rfl, ?_⟩
    rw [Nt.lesser_lt hb15]
    exact (hb.ext (e11.trans (g13.ext.trans e17)))
  · replace hb15 : (decide ((Nt.cmpQ y x) < 0)) = false := hb15
    have qhb15 := of_decide_eq_false hb15
    refine sw_skip (mp_seq ?_)
    refine sw_seq ?_
    refine sw_reg ?_
    refine sy_ldv 10 (.v (a.v)) ty26 part_agg ?_
    refine sy_store ⟨26, a.cs⟩ ty26 ?_
    refine sy_next 11 [(4, .adr 4 0)] [(4, ⟨26, a.cs⟩)] ?_
    refine sw_ret (ret0 [a.v] ⟨res_cell ty26 part_agg, trivial⟩ fun u18 e19 => ?_)
    refine ⟨a, rfl, ?_⟩
    rw [Nt.lesser_ge hb15]
    exact (ha.ext (e11.trans (g13.ext.trans e19)))
theorem k_greaterV {u w : World} {a : RL} {x : Rat} {b : RL} {y : Rat} {K : Nat} (d : Dat u w) (ha : RatV u a x K) (hb : RatV u b y K) (hK : K ≤ 200000000) : Calls Try.prog 40 #[a.v, b.v] w (Post u w fun v u' => ∃ p : RL, v = p.v ∧ RatV u' p (Nt.hi x y) K) := by
  refine calls_sym (args := [a.v, b.v]) Try.func40 rfl Try.ntmps40 (rs := [.cell 4 26]) Try.results40 (le_b rfl) (le_b rfl) d ?_
  refine sw_seq ?_
  refine sw_reg ?_
  refine sy_new 2 ⟨26, a.cs⟩ ?_
  refine sy_new 3 ⟨26, b.cs⟩ ?_
  refine sy_new 4 ⟨26, [.bool false, .slice none 0 0, .slice none 0 0]⟩ ?_
  refine sy_next 11 [(2, .adr 2 0), (3, .adr 3 0), (4, .adr 4 0)] [(2, ⟨26, a.cs⟩), (3, ⟨26, b.cs⟩), (4, ⟨26, [.bool false, .slice none 0 0, .slice none 0 0]⟩)] ?_
  refine sw_seq ?_
  refine sw_seq ?_
  refine sw_reg ?_
  refine sy_ldv 5 (.v (b.v)) ty26 part_agg ?_
  refine sy_ldv 6 (.v (a.v)) ty26 part_agg ?_
  refine sy_call 7 42 [b.v, a.v] ?_
  intro w11 u11 e11 d11
  have k14 := k_ratCompare d11 (hb.ext e11) (ha.ext e11) (by omega) (by omega)
  with_reducible refine Post.mono k14 ?_
  clear k14
  rintro _ u12 g13 rfl
  refine sy_pure 8 (.v (.bool (decide ((0 : Int) < (Nt.cmpQ y x))))) ?_
  refine sy_next 11 [(2, .adr 2 0), (3, .adr 3 0), (4, .adr 4 0), (8, .v (.bool (decide ((0 : Int) < (Nt.cmpQ y x)))))] [(2, ⟨26, a.cs⟩), (3, ⟨26, b.cs⟩), (4, ⟨26, [.bool false, .slice none 0 0, .slice none 0 0]⟩)] ?_
  refine sw_cond (b := decide ((0 : Int) < (Nt.cmpQ y x))) (by kernel_rfl) (fun hb15 => ?_) (fun hb15 => ?_)
  · replace hb15 : (decide ((0 : Int) < (Nt.cmpQ y x))) = true := hb15
    have qhb15 := of_decide_eq_true hb15
    refine sw_seq ?_
    refine sw_reg ?_
    refine sy_ldv 9 (.v (b.v)) ty26 part_agg ?_
    refine sy_store ⟨26, b.cs⟩ ty26 ?_
    refine sy_next 11 [(4, .adr 4 0)] [(4, ⟨26, b.cs⟩)] ?_
    refine sw_ret (mpr_seq (ret0 [b.v] ⟨res_cell ty26 part_agg, trivial⟩ fun u16 e17 => ?_))
    refine ⟨b, rfl, ?_⟩
    rw [Nt.greater_gt hb15]
    exact (hb.ext (e11.trans (g13.ext.trans e17)))
  · replace hb15 : (decide ((0 : Int) < (Nt.cmpQ y x))) = false := hb15
    have qhb15 := of_decide_eq_false hb15
    refine sw_skip (mp_seq ?_)
    refine sw_seq ?_
    refine sw_reg ?_
    refine sy_ldv 10 (.v (a.v)) ty26 part_agg ?_
    refine sy_store ⟨26, a.cs⟩ ty26 ?_
    refine sy_next 11 [(4, .adr 4 0)] [(4, ⟨26, a.cs⟩)] ?_
    refine sw_ret (ret0 [a.v] ⟨res_cell ty26 part_agg, trivial⟩ fun u18 e19 => ?_)
    refine ⟨a, rfl, ?_⟩
    rw [Nt.greater_le hb15]
    exact (ha.ext (e11.trans (g13.ext.trans e19)))
theorem k_greaterN {u w : World} {a : RL} {x : Rat} {b : RL} {y : Rat} {K : Nat} (d : Dat u w) (ha : RatN u a x K) (hb : RatN u b y K) (hK : K ≤ 200000000) : Calls Try.prog 40 #[a.v, b.v] w (Post u w fun v u' => ∃ p : RL, v = p.v ∧ RatN u' p (Nt.hi x y) K) := by
  refine calls_sym (args := [a.v, b.v]) Try.func40 rfl Try.ntmps40 (rs := [.cell 4 26]) Try.results40 (le_b rfl) (le_b rfl) d ?_
  refine sw_seq ?_
  refine sw_reg ?_
  refine sy_new 2 ⟨26, a.cs⟩ ?_
  refine sy_new 3 ⟨26, b.cs⟩ ?_
  refine sy_new 4 ⟨26, [.bool false, .slice none 0 0, .slice none 0 0]⟩ ?_
  refine sy_next 11 [(2, .adr 2 0), (3, .adr 3 0), (4, .adr 4 0)] [(2, ⟨26, a.cs⟩), (3, ⟨26, b.cs⟩), (4, ⟨26, [.bool false, .slice none 0 0, .slice none 0 0]⟩)] ?_
  refine sw_seq ?_
  refine sw_seq ?_
  refine sw_reg ?_
  refine sy_ldv 5 (.v (b.v)) ty26 part_agg ?_
  refine sy_ldv 6 (.v (a.v)) ty26 part_agg ?_
  refine sy_call 7 42 [b.v, a.v] ?_
  intro w11 u11 e11 d11
  have k14 := k_ratCompare d11 (hb.ext e11).raw (ha.ext e11).raw (by omega) (by omega)
  with_reducible refine Post.mono k14 ?_
  clear k14
  rintro _ u12 g13 rfl
  refine sy_pure 8 (.v (.bool (decide ((0 : Int) < (Nt.cmpQ y x))))) ?_
  refine sy_next 11 [(2, .adr 2 0), (3, .adr 3 0), (4, .adr 4 0), (8, .v (.bool (decide ((0 : Int) < (Nt.cmpQ y x)))))] [(2, ⟨26, a.cs⟩), (3, ⟨26, b.cs⟩), (4, ⟨26, [.bool false, .slice none 0 0, .slice none 0 0]⟩)] ?_
  refine sw_cond (b := decide ((0 : Int) < (Nt.cmpQ y x))) (by kernel_rfl) (fun hb15 => ?_) (fun hb15 => ?_)
  · replace hb15 : (decide ((0 : Int) < (Nt.cmpQ y x))) = true := hb15
    have qhb15 := of_decide_eq_true hb15
    refine sw_seq ?_
    refine sw_reg ?_
    refine sy_ldv 9 (.v (b.v)) ty26 part_agg ?_
    refine sy_store ⟨26, b.cs⟩ ty26 ?_
    refine sy_next 11 [(4, .adr 4 0)] [(4, ⟨26, b.cs⟩)] ?_
    refine sw_ret (mpr_seq (ret0 [b.v] ⟨res_cell ty26 part_agg, trivial⟩ fun u16 e17 => ?_))
    refine ⟨b, rfl, ?_⟩
    rw [Nt.greater_gt hb15]
    exact (hb.ext (e11.trans (g13.ext.trans e17)))
  · replace hb15 : (decide ((0 : Int) < (Nt.cmpQ y x))) = false := hb15
    have qhb15 := of_decide_eq_false hb15
    refine sw_skip (mp_seq ?_)
    refine sw_seq ?_
    refine sw_reg ?_
    refine sy_ldv 10 (.v (a.v)) ty26 part_agg ?_
    refine sy_store ⟨26, a.cs⟩ ty26 ?_
    refine sy_next 11 [(4, .adr 4 0)] [(4, ⟨26, a.cs⟩)] ?_
    refine sw_ret (ret0 [a.v] ⟨res_cell ty26 part_agg, trivial⟩ fun u18 e19 => ?_)
    refine ⟨a, rfl, ?_⟩
    rw [Nt.greater_le hb15]
    exact (ha.ext (e11.trans (g13.ext.trans e19)))
theorem k_own {u w : World} {a : RL} {x : Rat} {K : Nat} (d : Dat u w) (ha : RatN u a x K) (hK : K ≤ 200000000) : Calls Try.prog 79 #[a.v] w (Post u w fun v u' => ∃ p : RL, v = p.v ∧ RatN u' p x K) := by
  refine calls_sym (args := [a.v]) Try.func79 rfl Try.ntmps79 (rs := [.cell 2 26]) Try.results79 (le_b rfl) (le_b rfl) d ?_
  refine sw_seq ?_
  refine sw_reg ?_
  refine sy_new 1 ⟨26, a.cs⟩ ?_
  refine sy_new 2 ⟨26, [.bool false, .slice none 0 0, .slice none 0 0]⟩ ?_
  refine sy_next 15 [(1, .adr 1 0), (2, .adr 2 0)] [(1, ⟨26, a.cs⟩), (2, ⟨26, [.bool false, .slice none 0 0, .slice none 0 0]⟩)] ?_
  refine sw_seq ?_
  refine sw_any [0, 1, 3, 0, 8, 24, 56, 127, 0, 256, 888, 2047, 4095] [(0, []), (1, []), (2, []), (3, []), (4, []), (5, []), (8, []), (9, []), (6, []), (7, []), (10, []), (11, []), (12, [])] (by kernel_rfl) (by kernel_rfl) ?_
  refine sy_pure 3 (.adr 1 0) ?_
  refine sy_pure 4 (.adr 1 0) ?_
  refine sy_ldv 5 (.v (.bool a.s)) ty4 part_one ?_
  refine sy_pure 6 (.adr 1 0) ?_
  refine sy_pure 7 (.adr 1 1) ?_
  refine sy_ldv 8 (.v (.slice a.m.a a.m.n a.m.c)) ty22 part_one ?_
  refine sy_pure 11 (.adr 1 2) ?_
  refine sy_ldv 12 (.v (.slice a.d.a a.d.n a.d.c)) ty22 part_one ?_
  refine sy_call 9 118 [.slice a.m.a a.m.n a.m.c] ?_
  intro w11 u11 e11 d11
  have k16 := k_cloneN d11 ((int_mag (RatN.num ha)).ext e11) (by omega)
  with_reducible refine Post.mono k16 ?_
  clear k16
  rintro _ u14 g15 ⟨x12, rfl, h13⟩
  refine sy_pure 10 (.v (.agg #[.bool a.s, .slice x12.a x12.n x12.c])) ?_
  refine sy_call 13 118 [.slice a.d.a a.d.n a.d.c] ?_
  intro w17 u17 e17 d17
  have k22 := k_cloneN d17 ((RatN.den ha).ext (e11.trans (g15.ext.trans e17))) (by omega)
  with_reducible refine Post.mono k22 ?_
  clear k22
  rintro _ u20 g21 ⟨x18, rfl, h19⟩
  refine sy_pure 14 (.v (.agg #[.bool a.s, .slice x12.a x12.n x12.c, .slice x18.a x18.n x18.c])) ?_
  refine sy_store ⟨26, [.bool a.s, .slice x12.a x12.n x12.c, .slice x18.a x18.n x18.c]⟩ ty26 ?_
  refine sy_next 15 [(2, .adr 2 0)] [(2, ⟨26, [.bool a.s, .slice x12.a x12.n x12.c, .slice x18.a x18.n x18.c]⟩)] ?_
  refine sw_ret (ret0 [.agg #[.bool a.s, .slice x12.a x12.n x12.c, .slice x18.a x18.n x18.c]] ⟨res_cell ty26 part_agg, trivial⟩ fun u23 e24 => ?_)
  exact ⟨(⟨a.s, x12, x18⟩ : RL), rfl, own_rat (r := a) ha (h13.ext (e17.trans (g21.ext.trans e24))) (h19.ext e24)⟩
set_option maxHeartbeats 1000000 in
theorem k_around {u w : World} {a1 a2 a3 a4 : RL} {x1 x2 x3 x4 : Rat} {K : Nat} (d : Dat u w) (ha1 : RatN u a1 x1 K) (ha2 : RatN u a2 x2 K) (ha3 : RatN u a3 x3 K) (ha4 : RatN u a4 x4 K) (hK : K ≤ 200000000) : Calls Try.prog 46 #[.agg #[.bool a1.s, .slice a1.m.a a1.m.n a1.m.c, .slice a1.d.a a1.d.n a1.d.c, .bool a2.s, .slice a2.m.a a2.m.n a2.m.c, .slice a2.d.a a2.d.n a2.d.c, .bool a3.s, .slice a3.m.a a3.m.n a3.m.c, .slice a3.d.a a3.d.n a3.d.c, .bool a4.s, .slice a4.m.a a4.m.n a4.m.c, .slice a4.d.a a4.d.n a4.d.c]] w (Post u w fun v u' => ∃ p q : RL, v = IV p q ∧ RatN u' p (Nt.lo4 x1 x2 x3 x4) K ∧ RatN u' q (Nt.hi4 x1 x2 x3 x4) K) := by
  refine calls_sym (args := [.agg #[.bool a1.s, .slice a1.m.a a1.m.n a1.m.c, .slice a1.d.a a1.d.n a1.d.c, .bool a2.s, .slice a2.m.a a2.m.n a2.m.c, .slice a2.d.a a2.d.n a2.d.c, .bool a3.s, .slice a3.m.a a3.m.n a3.m.c, .slice a3.d.a a3.d.n a3.d.c, .bool a4.s, .slice a4.m.a a4.m.n a4.m.c, .slice a4.d.a a4.d.n a4.d.c]]) Try.func46 rfl Try.ntmps46 (rs := [.cell 2 28]) Try.results46 (le_b rfl) (le_b rfl) d ?_
  refine sw_seq ?_
  refine sw_reg ?_
  refine sy_new 1 ⟨69, a1.cs ++ a2.cs ++ a3.cs ++ a4.cs⟩ ?_
  refine sy_new 2 ⟨28, [.bool false, .slice none 0 0, .slice none 0 0, .bool false, .slice none 0 0, .slice none 0 0]⟩ ?_
  refine sy_next 29 [(1, .adr 1 0), (2, .adr 2 0)] [(1, ⟨69, a1.cs ++ a2.cs ++ a3.cs ++ a4.cs⟩), (2, ⟨28, [.bool false, .slice none 0 0, .slice none 0 0, .bool false, .slice none 0 0, .slice none 0 0]⟩)] ?_
  refine sw_seq ?_
  refine sw_any [0, 1, 0, 4, 0, 0, 51, 127] [(0, []), (1, []), (2, []), (3, []), (4, []), (5, []), (6, [9]), (7, [])] (by kernel_rfl) (by kernel_rfl) ?_
  refine sy_pure 7 (.adr 1 0) ?_
  refine sy_ldv 8 (.v (a1.v)) ty26 part_agg ?_
  refine sy_pure 9 (.adr 1 0) ?_
  refine sy_ldv 10 (.v (a1.v)) ty26 part_agg ?_
  refine sy_new 3 ⟨26, [.bool false, .slice none 0 0, .slice none 0 0]⟩ ?_
  refine sy_new 4 ⟨26, [.bool false, .slice none 0 0, .slice none 0 0]⟩ ?_
  refine sy_store ⟨26, a1.cs⟩ ty26 ?_
  refine sy_store ⟨26, a1.cs⟩ ty26 ?_
  refine sy_next 29 [(1, .adr 1 0), (2, .adr 2 0), (3, .adr 3 0), (4, .adr 4 0)] [(1, ⟨69, a1.cs ++ a2.cs ++ a3.cs ++ a4.cs⟩), (2, ⟨28, [.bool false, .slice none 0 0, .slice none 0 0, .bool false, .slice none 0 0, .slice none 0 0]⟩), (3, ⟨26, a1.cs⟩), (4, ⟨26, a1.cs⟩)] ?_
  refine sw_seq ?_
  refine sw_seq ?_
  refine sw_reg ?_
  refine sy_pure 11 (.slc 1 3 3 3) ?_
  refine sy_pure 12 (.v (.int .i64 3)) ?_
  refine sy_pure 13 (.v (.int .i64 0)) ?_
  refine sy_next 29 [(2, .adr 2 0), (3, .adr 3 0), (4, .adr 4 0), (11, .slc 1 3 3 3), (12, .v (.int .i64 3)), (13, .v (.int .i64 0))] [(1, ⟨69, a1.cs ++ a2.cs ++ a3.cs ++ a4.cs⟩), (2, ⟨28, [.bool false, .slice none 0 0, .slice none 0 0, .bool false, .slice none 0 0, .slice none 0 0]⟩), (3, ⟨26, a1.cs⟩), (4, ⟨26, a1.cs⟩)] ?_
  refine sw_block ?_
  refine sw_rounds 3 ?_
  refine sw_seq ?_
  refine sw_reg ?_
  refine sy_pure 14 (.v (.bool true)) ?_
  refine sy_next 29 [(2, .adr 2 0), (3, .adr 3 0), (4, .adr 4 0), (11, .slc 1 3 3 3), (12, .v (.int .i64 3)), (13, .v (.int .i64 0)), (14, .v (.bool true))] [(1, ⟨69, a1.cs ++ a2.cs ++ a3.cs ++ a4.cs⟩), (2, ⟨28, [.bool false, .slice none 0 0, .slice none 0 0, .bool false, .slice none 0 0, .slice none 0 0]⟩), (3, ⟨26, a1.cs⟩), (4, ⟨26, a1.cs⟩)] ?_
  refine sw_seq ?_
  refine sw_true (by kernel_rfl) ?_
  refine sw_skip (mp_seq ?_)
  refine sw_seq ?_
  refine sw_block ?_
  refine sw_seq ?_
  refine sw_reg ?_
  refine sy_pure 15 (.adr 1 3) ?_
  refine sy_ldv 16 (.v (a2.v)) ty26 part_agg ?_
  refine sy_new 6 ⟨26, [.bool false, .slice none 0 0, .slice none 0 0]⟩ ?_
  refine sy_store ⟨26, a2.cs⟩ ty26 ?_
  refine sy_next 29 [(2, .adr 2 0), (3, .adr 3 0), (4, .adr 4 0), (6, .adr 6 0), (11, .slc 1 3 3 3), (12, .v (.int .i64 3)), (13, .v (.int .i64 0))] [(1, ⟨69, a1.cs ++ a2.cs ++ a3.cs ++ a4.cs⟩), (2, ⟨28, [.bool false, .slice none 0 0, .slice none 0 0, .bool false, .slice none 0 0, .slice none 0 0]⟩), (3, ⟨26, a1.cs⟩), (4, ⟨26, a1.cs⟩), (6, ⟨26, a2.cs⟩)] ?_
  refine sw_any [0, 0, 3, 0, 0, 31, 63, 127] [(0, []), (1, []), (3, []), (4, []), (2, []), (5, []), (6, []), (7, [])] (by kernel_rfl) (by kernel_rfl) ?_
  refine sy_ldv 17 (.v (a1.v)) ty26 part_agg ?_
  refine sy_ldv 18 (.v (a2.v)) ty26 part_agg ?_
  refine sy_ldv 20 (.v (a1.v)) ty26 part_agg ?_
  refine sy_ldv 21 (.v (a2.v)) ty26 part_agg ?_
  refine sy_call 19 41 [a1.v, a2.v] ?_
  intro w11 u11 e11 d11
  have k16 := k_lesserN d11 (ha1.ext e11) (ha2.ext e11) (by omega)
  with_reducible refine Post.mono k16 ?_
  clear k16
  rintro _ u14 g15 ⟨r12, rfl, h13⟩
  refine sy_call 22 40 [a1.v, a2.v] ?_
  intro w17 u17 e17 d17
  have k22 := k_greaterN d17 (ha1.ext (e11.trans (g15.ext.trans e17))) (ha2.ext (e11.trans (g15.ext.trans e17))) (by omega)
  with_reducible refine Post.mono k22 ?_
  clear k22
  rintro _ u20 g21 ⟨r18, rfl, h19⟩
  refine sy_store ⟨26, r12.cs⟩ ty26 ?_
  refine sy_store ⟨26, r18.cs⟩ ty26 ?_
  refine sy_end ?_
  refine mp_seq ?_
  refine sw_reg ?_
  refine sy_pure 23 (.v (.int .i64 1)) ?_
  refine sy_pure 13 (.v (.int .i64 1)) ?_
  refine sy_end ?_
  refine rn_next ?_
  refine sw_weak (T := St.of 29 [(2, .adr 2 0), (3, .adr 3 0), (4, .adr 4 0), (11, .slc 1 3 3 3), (12, .v (.int .i64 3)), (13, .v (.int .i64 1))] [(1, ⟨69, a1.cs ++ a2.cs ++ a3.cs ++ a4.cs⟩), (2, ⟨28, [.bool false, .slice none 0 0, .slice none 0 0, .bool false, .slice none 0 0, .slice none 0 0]⟩), (3, ⟨26, r12.cs⟩), (4, ⟨26, r18.cs⟩)]) (by exact weak_mk _ _ _) ?_
  refine sw_seq ?_
  refine sw_reg ?_
  refine sy_pure 14 (.v (.bool true)) ?_
  refine sy_next 29 [(2, .adr 2 0), (3, .adr 3 0), (4, .adr 4 0), (11, .slc 1 3 3 3), (12, .v (.int .i64 3)), (13, .v (.int .i64 1)), (14, .v (.bool true))] [(1, ⟨69, a1.cs ++ a2.cs ++ a3.cs ++ a4.cs⟩), (2, ⟨28, [.bool false, .slice none 0 0, .slice none 0 0, .bool false, .slice none 0 0, .slice none 0 0]⟩), (3, ⟨26, r12.cs⟩), (4, ⟨26, r18.cs⟩)] ?_
  refine sw_seq ?_
  refine sw_true (by kernel_rfl) ?_
  refine sw_skip (mp_seq ?_)
  refine sw_seq ?_
  refine sw_block ?_
  refine sw_seq ?_
  refine sw_reg ?_
  refine sy_pure 15 (.adr 1 6) ?_
  refine sy_ldv 16 (.v (a3.v)) ty26 part_agg ?_
  refine sy_new 6 ⟨26, [.bool false, .slice none 0 0, .slice none 0 0]⟩ ?_
  refine sy_store ⟨26, a3.cs⟩ ty26 ?_
  refine sy_next 29 [(2, .adr 2 0), (3, .adr 3 0), (4, .adr 4 0), (6, .adr 6 0), (11, .slc 1 3 3 3), (12, .v (.int .i64 3)), (13, .v (.int .i64 1))] [(1, ⟨69, a1.cs ++ a2.cs ++ a3.cs ++ a4.cs⟩), (2, ⟨28, [.bool false, .slice none 0 0, .slice none 0 0, .bool false, .slice none 0 0, .slice none 0 0]⟩), (3, ⟨26, r12.cs⟩), (4, ⟨26, r18.cs⟩), (6, ⟨26, a3.cs⟩)] ?_
  refine sw_any [0, 0, 3, 0, 0, 31, 63, 127] [(0, []), (1, []), (3, []), (4, []), (2, []), (5, []), (6, []), (7, [])] (by kernel_rfl) (by kernel_rfl) ?_
  refine sy_ldv 17 (.v (r12.v)) ty26 part_agg ?_
  refine sy_ldv 18 (.v (a3.v)) ty26 part_agg ?_
  refine sy_ldv 20 (.v (r18.v)) ty26 part_agg ?_
  refine sy_ldv 21 (.v (a3.v)) ty26 part_agg ?_
  refine sy_call 19 41 [r12.v, a3.v] ?_
  intro w23 u23 e23 d23
  have k28 := k_lesserN d23 (h13.ext (e17.trans (g21.ext.trans e23))) (ha3.ext (e11.trans (g15.ext.trans (e17.trans (g21.ext.trans e23))))) (by omega)
  with_reducible refine Post.mono k28 ?_
  clear k28
  rintro _ u26 g27 ⟨r24, rfl, h25⟩
  refine sy_call 22 40 [r18.v, a3.v] ?_
  intro w29 u29 e29 d29
  have k34 := k_greaterN d29 (h19.ext (e23.trans (g27.ext.trans e29))) (ha3.ext (e11.trans (g15.ext.trans (e17.trans (g21.ext.trans (e23.trans (g27.ext.trans e29))))))) (by omega)
  with_reducible refine Post.mono k34 ?_
  clear k34
  rintro _ u32 g33 ⟨r30, rfl, h31⟩
  refine sy_store ⟨26, r24.cs⟩ ty26 ?_
  refine sy_store ⟨26, r30.cs⟩ ty26 ?_
  refine sy_end ?_
  refine mp_seq ?_
  refine sw_reg ?_
  refine sy_pure 23 (.v (.int .i64 2)) ?_
  refine sy_pure 13 (.v (.int .i64 2)) ?_
  refine sy_end ?_
  refine rn_next ?_
  refine sw_weak (T := St.of 29 [(2, .adr 2 0), (3, .adr 3 0), (4, .adr 4 0), (11, .slc 1 3 3 3), (12, .v (.int .i64 3)), (13, .v (.int .i64 2))] [(1, ⟨69, a1.cs ++ a2.cs ++ a3.cs ++ a4.cs⟩), (2, ⟨28, [.bool false, .slice none 0 0, .slice none 0 0, .bool false, .slice none 0 0, .slice none 0 0]⟩), (3, ⟨26, r24.cs⟩), (4, ⟨26, r30.cs⟩)]) (by exact weak_mk _ _ _) ?_
  refine sw_seq ?_
  refine sw_reg ?_
  refine sy_pure 14 (.v (.bool true)) ?_
  refine sy_next 29 [(2, .adr 2 0), (3, .adr 3 0), (4, .adr 4 0), (11, .slc 1 3 3 3), (12, .v (.int .i64 3)), (13, .v (.int .i64 2)), (14, .v (.bool true))] [(1, ⟨69, a1.cs ++ a2.cs ++ a3.cs ++ a4.cs⟩), (2, ⟨28, [.bool false, .slice none 0 0, .slice none 0 0, .bool false, .slice none 0 0, .slice none 0 0]⟩), (3, ⟨26, r24.cs⟩), (4, ⟨26, r30.cs⟩)] ?_
  refine sw_seq ?_
  refine sw_true (by kernel_rfl) ?_
  refine sw_skip (mp_seq ?_)
  refine sw_seq ?_
  refine sw_block ?_
  refine sw_seq ?_
  refine sw_reg ?_
  refine sy_pure 15 (.adr 1 9) ?_
  refine sy_ldv 16 (.v (a4.v)) ty26 part_agg ?_
  refine sy_new 6 ⟨26, [.bool false, .slice none 0 0, .slice none 0 0]⟩ ?_
  refine sy_store ⟨26, a4.cs⟩ ty26 ?_
  refine sy_next 29 [(2, .adr 2 0), (3, .adr 3 0), (4, .adr 4 0), (6, .adr 6 0), (11, .slc 1 3 3 3), (12, .v (.int .i64 3)), (13, .v (.int .i64 2))] [(1, ⟨69, a1.cs ++ a2.cs ++ a3.cs ++ a4.cs⟩), (2, ⟨28, [.bool false, .slice none 0 0, .slice none 0 0, .bool false, .slice none 0 0, .slice none 0 0]⟩), (3, ⟨26, r24.cs⟩), (4, ⟨26, r30.cs⟩), (6, ⟨26, a4.cs⟩)] ?_
  refine sw_any [0, 0, 3, 0, 0, 31, 63, 127] [(0, []), (1, []), (3, []), (4, []), (2, []), (5, []), (6, []), (7, [])] (by kernel_rfl) (by kernel_rfl) ?_
  refine sy_ldv 17 (.v (r24.v)) ty26 part_agg ?_
  refine sy_ldv 18 (.v (a4.v)) ty26 part_agg ?_
  refine sy_ldv 20 (.v (r30.v)) ty26 part_agg ?_
  refine sy_ldv 21 (.v (a4.v)) ty26 part_agg ?_
  refine sy_call 19 41 [r24.v, a4.v] ?_
  intro w35 u35 e35 d35
  have k40 := k_lesserN d35 (h25.ext (e29.trans (g33.ext.trans e35))) (ha4.ext (e11.trans (g15.ext.trans (e17.trans (g21.ext.trans (e23.trans (g27.ext.trans (e29.trans (g33.ext.trans e35))))))))) (by omega)
  with_reducible refine Post.mono k40 ?_
  clear k40
  rintro _ u38 g39 ⟨r36, rfl, h37⟩
  refine sy_call 22 40 [r30.v, a4.v] ?_
  intro w41 u41 e41 d41
  have k46 := k_greaterN d41 (h31.ext (e35.trans (g39.ext.trans e41))) (ha4.ext (e11.trans (g15.ext.trans (e17.trans (g21.ext.trans (e23.trans (g27.ext.trans (e29.trans (g33.ext.trans (e35.trans (g39.ext.trans e41))))))))))) (by omega)
  with_reducible refine Post.mono k46 ?_
  clear k46
  rintro _ u44 g45 ⟨r42, rfl, h43⟩
  refine sy_store ⟨26, r36.cs⟩ ty26 ?_
  refine sy_store ⟨26, r42.cs⟩ ty26 ?_
  refine sy_end ?_
  refine mp_seq ?_
  refine sw_reg ?_
  refine sy_pure 23 (.v (.int .i64 3)) ?_
  refine sy_pure 13 (.v (.int .i64 3)) ?_
  refine sy_end ?_
  refine rn_next ?_
  refine sw_weak (T := St.of 29 [(2, .adr 2 0), (3, .adr 3 0), (4, .adr 4 0), (11, .slc 1 3 3 3), (12, .v (.int .i64 3)), (13, .v (.int .i64 3))] [(1, ⟨69, a1.cs ++ a2.cs ++ a3.cs ++ a4.cs⟩), (2, ⟨28, [.bool false, .slice none 0 0, .slice none 0 0, .bool false, .slice none 0 0, .slice none 0 0]⟩), (3, ⟨26, r36.cs⟩), (4, ⟨26, r42.cs⟩)]) (by exact weak_mk _ _ _) ?_
  refine sw_seq ?_
  refine sw_reg ?_
  refine sy_pure 14 (.v (.bool false)) ?_
  refine sy_next 29 [(2, .adr 2 0), (3, .adr 3 0), (4, .adr 4 0), (11, .slc 1 3 3 3), (12, .v (.int .i64 3)), (13, .v (.int .i64 3)), (14, .v (.bool false))] [(1, ⟨69, a1.cs ++ a2.cs ++ a3.cs ++ a4.cs⟩), (2, ⟨28, [.bool false, .slice none 0 0, .slice none 0 0, .bool false, .slice none 0 0, .slice none 0 0]⟩), (3, ⟨26, r36.cs⟩), (4, ⟨26, r42.cs⟩)] ?_
  refine sw_seq ?_
  refine sw_false (by kernel_rfl) ?_
  refine sw_exit ?_
  refine mp_seq ?_
  refine sw_seq ?_
  refine sw_any [0, 1, 0, 7, 15, 31] [(0, []), (2, []), (1, []), (3, []), (4, []), (5, [])] (by kernel_rfl) (by kernel_rfl) ?_
  refine sy_ldv 24 (.v (r36.v)) ty26 part_agg ?_
  refine sy_ldv 26 (.v (r42.v)) ty26 part_agg ?_
  refine sy_call 25 79 [r36.v] ?_
  intro w47 u47 e47 d47
  have k52 := k_own d47 (h37.ext (e41.trans (g45.ext.trans e47))) (by omega)
  with_reducible refine Post.mono k52 ?_
  clear k52
  rintro _ u50 g51 ⟨r48, rfl, h49⟩
  refine sy_call 27 79 [r42.v] ?_
  intro w53 u53 e53 d53
  have k58 := k_own d53 (h43.ext (e47.trans (g51.ext.trans e53))) (by omega)
  with_reducible refine Post.mono k58 ?_
  clear k58
  rintro _ u56 g57 ⟨r54, rfl, h55⟩
  refine sy_pure 28 (.v (.agg #[.bool r48.s, .slice r48.m.a r48.m.n r48.m.c, .slice r48.d.a r48.d.n r48.d.c, .bool r54.s, .slice r54.m.a r54.m.n r54.m.c, .slice r54.d.a r54.d.n r54.d.c])) ?_
  refine sy_store ⟨28, r48.cs ++ r54.cs⟩ ty28 ?_
  refine sy_next 29 [(2, .adr 2 0)] [(2, ⟨28, r48.cs ++ r54.cs⟩)] ?_
  refine sw_ret (ret0 [.agg #[.bool r48.s, .slice r48.m.a r48.m.n r48.m.c, .slice r48.d.a r48.d.n r48.d.c, .bool r54.s, .slice r54.m.a r54.m.n r54.m.c, .slice r54.d.a r54.d.n r54.d.c]] ⟨res_cell ty28 part_agg, trivial⟩ fun u59 e60 => ?_)
  refine ⟨r48, r54, rfl, RatN.more (K := K) ?_ (by omega), RatN.more (K := K) ?_ (by omega)⟩
  · exact (h49.ext (e53.trans (g57.ext.trans e60)))
  · exact (h55.ext e60)
theorem k_ivMake {u w : World} {a : RL} {x : Rat} {b : RL} {y : Rat} {K : Nat} (d : Dat u w) (ha : RatV u a x K) (hb : RatV u b y K) (hK : K ≤ 100000000) : Calls Try.prog 43 #[a.v, b.v] w (Post u w fun v u' => ∃ p q : RL, v = IV p q ∧ RatN u' p (Nt.lo x y) K ∧ RatN u' q (Nt.hi x y) K) := by
  refine calls_sym (args := [a.v, b.v]) Try.func43 rfl Try.ntmps43 (rs := [.cell 4 28]) Try.results43 (le_b rfl) (le_b rfl) d ?_
  refine sw_seq ?_
  refine sw_reg ?_
  refine sy_new 2 ⟨26, a.cs⟩ ?_
  refine sy_new 3 ⟨26, b.cs⟩ ?_
  refine sy_new 4 ⟨28, [.bool false, .slice none 0 0, .slice none 0 0, .bool false, .slice none 0 0, .slice none 0 0]⟩ ?_
  refine sy_next 19 [(2, .adr 2 0), (3, .adr 3 0), (4, .adr 4 0)] [(2, ⟨26, a.cs⟩), (3, ⟨26, b.cs⟩), (4, ⟨28, [.bool false, .slice none 0 0, .slice none 0 0, .bool false, .slice none 0 0, .slice none 0 0]⟩)] ?_
  refine sw_seq ?_
  refine sw_reg ?_
  refine sy_ldv 8 (.v (a.v)) ty26 part_agg ?_
  refine sy_ldv 9 (.v (b.v)) ty26 part_agg ?_
  refine sy_pure 10 (.v (.agg #[.bool a.s, .slice a.m.a a.m.n a.m.c, .slice a.d.a a.d.n a.d.c, .bool b.s, .slice b.m.a b.m.n b.m.c, .slice b.d.a b.d.n b.d.c])) ?_
  refine sy_call 11 39 [.agg #[.bool a.s, .slice a.m.a a.m.n a.m.c, .slice a.d.a a.d.n a.d.c, .bool b.s, .slice b.m.a b.m.n b.m.c, .slice b.d.a b.d.n b.d.c]] ?_
  intro w11 u11 e11 d11
  have k18 := k_ends d11 (ha.ext e11) (hb.ext e11) (by omega)
  with_reducible refine Post.mono k18 ?_
  clear k18
  rintro _ u16 g17 ⟨r12, r14, rfl, h13, h15⟩
  refine sy_pure 7 (.v (.tuple #[r12.v, r14.v])) ?_
  refine sy_pure 12 (.v (r12.v)) ?_
  refine sy_pure 13 (.v (r14.v)) ?_
  refine sy_new 5 ⟨26, [.bool false, .slice none 0 0, .slice none 0 0]⟩ ?_
  refine sy_new 6 ⟨26, [.bool false, .slice none 0 0, .slice none 0 0]⟩ ?_
  refine sy_store ⟨26, r12.cs⟩ ty26 ?_
  refine sy_store ⟨26, r14.cs⟩ ty26 ?_
  refine sy_next 19 [(4, .adr 4 0), (5, .adr 5 0), (6, .adr 6 0)] [(4, ⟨28, [.bool false, .slice none 0 0, .slice none 0 0, .bool false, .slice none 0 0, .slice none 0 0]⟩), (5, ⟨26, r12.cs⟩), (6, ⟨26, r14.cs⟩)] ?_
  refine sw_seq ?_
  refine sw_any [0, 1, 0, 7, 15, 31] [(0, []), (2, []), (1, []), (3, []), (4, []), (5, [])] (by kernel_rfl) (by kernel_rfl) ?_
  refine sy_ldv 14 (.v (r12.v)) ty26 part_agg ?_
  refine sy_ldv 16 (.v (r14.v)) ty26 part_agg ?_
  refine sy_call 15 59 [r12.v] ?_
  intro w19 u19 e19 d19
  have k24 := k_ratTrim d19 (h13.ext e19) (by omega)
  with_reducible refine Post.mono k24 ?_
  clear k24
  rintro _ u22 g23 ⟨r20, rfl, h21⟩
  refine sy_call 17 59 [r14.v] ?_
  intro w25 u25 e25 d25
  have k30 := k_ratTrim d25 (h15.ext (e19.trans (g23.ext.trans e25))) (by omega)
  with_reducible refine Post.mono k30 ?_
  clear k30
  rintro _ u28 g29 ⟨r26, rfl, h27⟩
  refine sy_pure 18 (.v (.agg #[.bool r20.s, .slice r20.m.a r20.m.n r20.m.c, .slice r20.d.a r20.d.n r20.d.c, .bool r26.s, .slice r26.m.a r26.m.n r26.m.c, .slice r26.d.a r26.d.n r26.d.c])) ?_
  refine sy_store ⟨28, r20.cs ++ r26.cs⟩ ty28 ?_
  refine sy_next 19 [(4, .adr 4 0)] [(4, ⟨28, r20.cs ++ r26.cs⟩)] ?_
  refine sw_ret (ret0 [.agg #[.bool r20.s, .slice r20.m.a r20.m.n r20.m.c, .slice r20.d.a r20.d.n r20.d.c, .bool r26.s, .slice r26.m.a r26.m.n r26.m.c, .slice r26.d.a r26.d.n r26.d.c]] ⟨res_cell ty28 part_agg, trivial⟩ fun u31 e32 => ?_)
  refine ⟨r20, r26, rfl, RatN.more (K := K) ?_ (by omega), RatN.more (K := K) ?_ (by omega)⟩
  · exact (h21.ext (e25.trans (g29.ext.trans e32)))
  · exact (h27.ext e32)
theorem k_ivContains {u w : World} {a1 a2 : RL} {x1 x2 : Rat} {b : RL} {y : Rat} {K L : Nat} (d : Dat u w) (ha1 : RatV u a1 x1 K) (ha2 : RatV u a2 x2 K) (hb : RatV u b y L) (hK : K ≤ 100000000) (hL : L ≤ 100000000) : Calls Try.prog 12 #[IV a1 a2, b.v] w (Post u w fun v u' => v = .bool (Nt.inI x1 x2 y)) := by
  refine calls_sym (args := [.agg #[.bool a1.s, .slice a1.m.a a1.m.n a1.m.c, .slice a1.d.a a1.d.n a1.d.c, .bool a2.s, .slice a2.m.a a2.m.n a2.m.c, .slice a2.d.a a2.d.n a2.d.c], b.v]) Try.func12 rfl Try.ntmps12 (rs := [.tmp 4]) Try.results12 (le_b rfl) (le_b rfl) d ?_
  refine sw_seq ?_
  refine sw_reg ?_
  refine sy_new 2 ⟨28, a1.cs ++ a2.cs⟩ ?_
  refine sy_new 3 ⟨26, b.cs⟩ ?_
  refine sy_pure 4 (.v (.bool false)) ?_
  refine sy_next 22 [(2, .adr 2 0), (3, .adr 3 0)] [(2, ⟨28, a1.cs ++ a2.cs⟩), (3, ⟨26, b.cs⟩)] ?_
  refine sw_seq ?_
  refine sw_reg ?_
  refine sy_ldv 8 (.v (.agg #[.bool a1.s, .slice a1.m.a a1.m.n a1.m.c, .slice a1.d.a a1.d.n a1.d.c, .bool a2.s, .slice a2.m.a a2.m.n a2.m.c, .slice a2.d.a a2.d.n a2.d.c])) ty28 part_agg ?_
  refine sy_call 9 39 [.agg #[.bool a1.s, .slice a1.m.a a1.m.n a1.m.c, .slice a1.d.a a1.d.n a1.d.c, .bool a2.s, .slice a2.m.a a2.m.n a2.m.c, .slice a2.d.a a2.d.n a2.d.c]] ?_
  intro w11 u11 e11 d11
  have k18 := k_ends d11 (ha1.ext e11) (ha2.ext e11) (by omega)
  with_reducible refine Post.mono k18 ?_
  clear k18
  rintro _ u16 g17 ⟨r12, r14, rfl, h13, h15⟩
  refine sy_pure 7 (.v (.tuple #[r12.v, r14.v])) ?_
  refine sy_pure 10 (.v (r12.v)) ?_
  refine sy_pure 11 (.v (r14.v)) ?_
  refine sy_new 5 ⟨26, [.bool false, .slice none 0 0, .slice none 0 0]⟩ ?_
  refine sy_new 6 ⟨26, [.bool false, .slice none 0 0, .slice none 0 0]⟩ ?_
  refine sy_store ⟨26, r12.cs⟩ ty26 ?_
  refine sy_store ⟨26, r14.cs⟩ ty26 ?_
  refine sy_next 22 [(3, .adr 3 0), (5, .adr 5 0), (6, .adr 6 0)] [(3, ⟨26, b.cs⟩), (5, ⟨26, r12.cs⟩), (6, ⟨26, r14.cs⟩)] ?_
  refine sw_seq ?_
  refine sw_reg ?_
  refine sy_ldv 12 (.v (r12.v)) ty26 part_agg ?_
  refine sy_ldv 13 (.v (b.v)) ty26 part_agg ?_
  refine sy_call 14 42 [r12.v, b.v] ?_
  intro w19 u19 e19 d19
  have k22 := k_ratCompare d19 (h13.ext e19) (hb.ext (e11.trans (g17.ext.trans e19))) (by omega) (by omega)
  with_reducible refine Post.mono k22 ?_
  clear k22
  rintro _ u20 g21 rfl
  refine sy_pure 15 (.v (.bool (decide ((Nt.cmpQ (Nt.lo x1 x2) y) ≤ 0)))) ?_
  rcases Bool.eq_false_or_eq_true (decide ((Nt.cmpQ (Nt.lo x1 x2) y) ≤ 0)) with hs23 | hs23
  · refine sy_eq 16 (x := .v (.bool (decide ((Nt.cmpQ (Nt.lo x1 x2) y) ≤ 0)))) (.v (.bool true)) (by rw [hs23]) ?_
    have qhs23 := of_decide_eq_true hs23
    refine sy_ldv 17 (.v (b.v)) ty26 part_agg ?_ (hw := wants1 (g := 4) (b := true) (t := 16) (by kernel_rfl) (by kernel_rfl) (by kernel_rfl))
    refine sy_ldv 18 (.v (r14.v)) ty26 part_agg ?_ (hw := wants1 (g := 4) (b := true) (t := 16) (by kernel_rfl) (by kernel_rfl) (by kernel_rfl))
    refine sy_call 19 42 [b.v, r14.v] ?_ (hw := wants1 (g := 4) (b := true) (t := 16) (by kernel_rfl) (by kernel_rfl) (by kernel_rfl))
    intro w24 u24 e24 d24
    have k27 := k_ratCompare d24 (hb.ext (e11.trans (g17.ext.trans (e19.trans (g21.ext.trans e24))))) (h15.ext (e19.trans (g21.ext.trans e24))) (by omega) (by omega)
    with_reducible refine Post.mono k27 ?_
    clear k27
    rintro _ u25 g26 rfl
    refine sy_pure 20 (.v (.bool (decide ((Nt.cmpQ y (Nt.hi x1 x2)) ≤ 0)))) ?_ (hw := wants1 (g := 4) (b := true) (t := 16) (by kernel_rfl) (by kernel_rfl) (by kernel_rfl))
    refine sy_pure 21 (.v (.bool (decide ((Nt.cmpQ y (Nt.hi x1 x2)) ≤ 0)))) ?_
    refine sy_pure 4 (.v (.bool (decide ((Nt.cmpQ y (Nt.hi x1 x2)) ≤ 0)))) ?_
    refine sy_next 22 [(4, .v (.bool (decide ((Nt.cmpQ y (Nt.hi x1 x2)) ≤ 0))))] [] ?_
    refine sw_ret (ret0 [.bool (decide ((Nt.cmpQ y (Nt.hi x1 x2)) ≤ 0))] ⟨res_tmp, trivial⟩ fun u28 e29 => ?_)
    show _ = _
    unfold Nt.inI
    rw [← Nt.cmpQ_le, ← Nt.cmpQ_le, hs23]
    rfl
  · refine sy_eq 16 (x := .v (.bool (decide ((Nt.cmpQ (Nt.lo x1 x2) y) ≤ 0)))) (.v (.bool false)) (by rw [hs23]) ?_
    have qhs23 := of_decide_eq_false hs23
    refine sy_drop 17 (unwanted (g := 4) (b := true) (c := false) (t := 16) (by kernel_rfl) (by kernel_rfl) (by kernel_rfl) (by kernel_rfl)) ?_
    refine sy_drop 18 (unwanted (g := 4) (b := true) (c := false) (t := 16) (by kernel_rfl) (by kernel_rfl) (by kernel_rfl) (by kernel_rfl)) ?_
    refine sy_drop 19 (unwanted (g := 4) (b := true) (c := false) (t := 16) (by kernel_rfl) (by kernel_rfl) (by kernel_rfl) (by kernel_rfl)) ?_
    refine sy_drop 20 (unwanted (g := 4) (b := true) (c := false) (t := 16) (by kernel_rfl) (by kernel_rfl) (by kernel_rfl) (by kernel_rfl)) ?_
    refine sy_pure 21 (.v (.bool false)) ?_
    refine sy_pure 4 (.v (.bool false)) ?_
    refine sy_next 22 [(4, .v (.bool false))] [] ?_
    refine sw_ret (ret0 [.bool false] ⟨res_tmp, trivial⟩ fun u30 e31 => ?_)
    show _ = _
    unfold Nt.inI
    rw [← Nt.cmpQ_le, ← Nt.cmpQ_le, hs23]
    rfl
theorem k_ivSign {u w : World} {a1 a2 : RL} {x1 x2 : Rat} {K : Nat} (d : Dat u w) (ha1 : RatV u a1 x1 K) (ha2 : RatV u a2 x2 K) (hK : K ≤ 100000000) : Calls Try.prog 48 #[IV a1 a2] w (Post u w fun v u' => v = .int .i64 (Nt.sgI x1 x2)) := by
  refine calls_sym (args := [.agg #[.bool a1.s, .slice a1.m.a a1.m.n a1.m.c, .slice a1.d.a a1.d.n a1.d.c, .bool a2.s, .slice a2.m.a a2.m.n a2.m.c, .slice a2.d.a a2.d.n a2.d.c]]) Try.func48 rfl Try.ntmps48 (rs := [.tmp 2]) Try.results48 (le_b rfl) (le_b rfl) d ?_
  refine sw_seq ?_
  refine sw_reg ?_
  refine sy_new 1 ⟨28, a1.cs ++ a2.cs⟩ ?_
  refine sy_pure 2 (.v (.int .i64 0)) ?_
  refine sy_next 18 [(1, .adr 1 0)] [(1, ⟨28, a1.cs ++ a2.cs⟩)] ?_
  refine sw_seq ?_
  refine sw_reg ?_
  refine sy_ldv 6 (.v (.agg #[.bool a1.s, .slice a1.m.a a1.m.n a1.m.c, .slice a1.d.a a1.d.n a1.d.c, .bool a2.s, .slice a2.m.a a2.m.n a2.m.c, .slice a2.d.a a2.d.n a2.d.c])) ty28 part_agg ?_
  refine sy_call 7 39 [.agg #[.bool a1.s, .slice a1.m.a a1.m.n a1.m.c, .slice a1.d.a a1.d.n a1.d.c, .bool a2.s, .slice a2.m.a a2.m.n a2.m.c, .slice a2.d.a a2.d.n a2.d.c]] ?_
  intro w11 u11 e11 d11
  have k18 := k_ends d11 (ha1.ext e11) (ha2.ext e11) (by omega)
  with_reducible refine Post.mono k18 ?_
  clear k18
  rintro _ u16 g17 ⟨r12, r14, rfl, h13, h15⟩
  refine sy_pure 5 (.v (.tuple #[r12.v, r14.v])) ?_
  refine sy_pure 8 (.v (r12.v)) ?_
  refine sy_pure 9 (.v (r14.v)) ?_
  refine sy_new 3 ⟨26, [.bool false, .slice none 0 0, .slice none 0 0]⟩ ?_
  refine sy_new 4 ⟨26, [.bool false, .slice none 0 0, .slice none 0 0]⟩ ?_
  refine sy_store ⟨26, r12.cs⟩ ty26 ?_
  refine sy_store ⟨26, r14.cs⟩ ty26 ?_
  refine sy_next 18 [(3, .adr 3 0), (4, .adr 4 0)] [(3, ⟨26, r12.cs⟩), (4, ⟨26, r14.cs⟩)] ?_
  refine sw_seq ?_
  refine sw_block ?_
  refine sw_seq ?_
  refine sw_reg ?_
  refine sy_ldv 11 (.v (r12.v)) ty26 part_agg ?_
  refine sy_call 12 80 [r12.v] ?_
  intro w19 u19 e19 d19
  have k22 := k_ratSign d19 (h13.ext e19)
  with_reducible refine Post.mono k22 ?_
  clear k22
  rintro _ u20 g21 rfl
  refine sy_pure 13 (.v (.bool (decide ((0 : Int) < (Nt.sgQ (Nt.lo x1 x2)))))) ?_
  refine sy_pure 10 (.v (.bool (decide ((0 : Int) < (Nt.sgQ (Nt.lo x1 x2)))))) ?_
  refine sy_next 18 [(4, .adr 4 0), (10, .v (.bool (decide ((0 : Int) < (Nt.sgQ (Nt.lo x1 x2))))))] [(4, ⟨26, r14.cs⟩)] ?_
  refine sw_cond (b := decide ((0 : Int) < (Nt.sgQ (Nt.lo x1 x2)))) (by kernel_rfl) (fun hb23 => ?_) (fun hb23 => ?_)
  · replace hb23 : (decide ((0 : Int) < (Nt.sgQ (Nt.lo x1 x2)))) = true := hb23
    have qhb23 := of_decide_eq_true hb23
    refine sw_seq ?_
    refine sw_reg ?_
    refine sy_pure 2 (.v (.int .i64 1)) ?_
    refine sy_next 18 [(2, .v (.int .i64 1))] [] ?_
    refine sw_ret (mpr_block (mpr_seq (ret0 [.int .i64 1] ⟨res_tmp, trivial⟩ fun u24 e25 => ?_)))
    show _ = _
    unfold Nt.sgI
    rw [Nt.sgQ_gt] at hb23
    rw [if_pos (of_decide_eq_true hb23)]
    rfl
  · replace hb23 : (decide ((0 : Int) < (Nt.sgQ (Nt.lo x1 x2)))) = false := hb23
    have qhb23 := of_decide_eq_false hb23
    refine sw_seq ?_
    refine sw_reg ?_
    refine sy_ldv 15 (.v (r14.v)) ty26 part_agg ?_
    refine sy_call 16 80 [r14.v] ?_
    intro w26 u26 e26 d26
    have k29 := k_ratSign d26 (h15.ext (e19.trans (g21.ext.trans e26)))
    with_reducible refine Post.mono k29 ?_
    clear k29
    rintro _ u27 g28 rfl
    refine sy_pure 17 (.v (.bool (decide ((Nt.sgQ (Nt.hi x1 x2)) < 0)))) ?_
    refine sy_pure 14 (.v (.bool (decide ((Nt.sgQ (Nt.hi x1 x2)) < 0)))) ?_
    refine sy_next 18 [(14, .v (.bool (decide ((Nt.sgQ (Nt.hi x1 x2)) < 0))))] [] ?_
    refine sw_cond (b := decide ((Nt.sgQ (Nt.hi x1 x2)) < 0)) (by kernel_rfl) (fun hb30 => ?_) (fun hb30 => ?_)
    · replace hb30 : (decide ((Nt.sgQ (Nt.hi x1 x2)) < 0)) = true := hb30
      have qhb30 := of_decide_eq_true hb30
      refine sw_seq ?_
      refine sw_reg ?_
      refine sy_pure 2 (.v (.int .i64 (-1))) ?_
      refine sy_next 18 [(2, .v (.int .i64 (-1)))] [] ?_
      refine sw_ret (mpr_block (mpr_seq (ret0 [.int .i64 (-1)] ⟨res_tmp, trivial⟩ fun u31 e32 => ?_)))
      show _ = _
      unfold Nt.sgI
      rw [Nt.sgQ_gt] at hb23
      rw [if_neg (of_decide_eq_false hb23)]
      rw [Nt.sgQ_lt] at hb30
      rw [if_pos (of_decide_eq_true hb30)]
      rfl
    · replace hb30 : (decide ((Nt.sgQ (Nt.hi x1 x2)) < 0)) = false := hb30
      have qhb30 := of_decide_eq_false hb30
      refine sw_skip (mp_seq ?_)
      refine sw_seq ?_
      refine sw_reg ?_
      refine sy_pure 2 (.v (.int .i64 0)) ?_
      refine sy_next 18 [(2, .v (.int .i64 0))] [] ?_
      refine sw_ret (ret0 [.int .i64 0] ⟨res_tmp, trivial⟩ fun u33 e34 => ?_)
      show _ = _
      unfold Nt.sgI
      rw [Nt.sgQ_gt] at hb23
      rw [if_neg (of_decide_eq_false hb23)]
      rw [Nt.sgQ_lt] at hb30
      rw [if_neg (of_decide_eq_false hb30)]
      rfl
theorem k_ivMul {u w : World} {a1 a2 : RL} {x1 x2 : Rat} {b1 b2 : RL} {y1 y2 : Rat} {K L : Nat} (d : Dat u w) (ha1 : RatV u a1 x1 K) (ha2 : RatV u a2 x2 K) (hb1 : RatV u b1 y1 L) (hb2 : RatV u b2 y2 L) (hK : K ≤ 100000000) (hL : L ≤ 100000000) : Calls Try.prog 17 #[IV a1 a2, IV b1 b2] w (Post u w fun v u' => ∃ p q : RL, v = IV p q ∧ RatN u' p (Nt.lo4 (x1 * y1) (x1 * y2) (x2 * y1) (x2 * y2)) (K + L) ∧ RatN u' q (Nt.hi4 (x1 * y1) (x1 * y2) (x2 * y1) (x2 * y2)) (K + L)) := by
  refine calls_sym (args := [.agg #[.bool a1.s, .slice a1.m.a a1.m.n a1.m.c, .slice a1.d.a a1.d.n a1.d.c, .bool a2.s, .slice a2.m.a a2.m.n a2.m.c, .slice a2.d.a a2.d.n a2.d.c], .agg #[.bool b1.s, .slice b1.m.a b1.m.n b1.m.c, .slice b1.d.a b1.d.n b1.d.c, .bool b2.s, .slice b2.m.a b2.m.n b2.m.c, .slice b2.d.a b2.d.n b2.d.c]]) Try.func17 rfl Try.ntmps17 (rs := [.cell 4 28]) Try.results17 (le_b rfl) (le_b rfl) d ?_
  refine sw_seq ?_
  refine sw_reg ?_
  refine sy_new 2 ⟨28, a1.cs ++ a2.cs⟩ ?_
  refine sy_new 3 ⟨28, b1.cs ++ b2.cs⟩ ?_
  refine sy_new 4 ⟨28, [.bool false, .slice none 0 0, .slice none 0 0, .bool false, .slice none 0 0, .slice none 0 0]⟩ ?_
  refine sy_next 27 [(2, .adr 2 0), (3, .adr 3 0), (4, .adr 4 0)] [(2, ⟨28, a1.cs ++ a2.cs⟩), (3, ⟨28, b1.cs ++ b2.cs⟩), (4, ⟨28, [.bool false, .slice none 0 0, .slice none 0 0, .bool false, .slice none 0 0, .slice none 0 0]⟩)] ?_
  refine sw_seq ?_
  refine sw_any [0, 1, 0, 4, 15, 0, 32, 0, 128, 511, 0, 1024, 0, 4096, 16383, 0, 32768, 0, 131072, 524287, 1048575, 2097151, 4194303] [(0, []), (1, []), (2, []), (3, []), (5, []), (6, []), (7, []), (8, []), (10, []), (11, []), (12, []), (13, []), (15, []), (16, []), (17, []), (18, []), (4, []), (9, []), (14, []), (19, []), (20, []), (21, []), (22, [])] (by kernel_rfl) (by kernel_rfl) ?_
  refine sy_pure 5 (.adr 2 0) ?_
  refine sy_ldv 6 (.v (a1.v)) ty26 part_agg ?_
  refine sy_pure 7 (.adr 3 0) ?_
  refine sy_ldv 8 (.v (b1.v)) ty26 part_agg ?_
  refine sy_pure 10 (.adr 2 0) ?_
  refine sy_ldv 11 (.v (a1.v)) ty26 part_agg ?_
  refine sy_pure 12 (.adr 3 3) ?_
  refine sy_ldv 13 (.v (b2.v)) ty26 part_agg ?_
  refine sy_pure 15 (.adr 2 3) ?_
  refine sy_ldv 16 (.v (a2.v)) ty26 part_agg ?_
  refine sy_pure 17 (.adr 3 0) ?_
  refine sy_ldv 18 (.v (b1.v)) ty26 part_agg ?_
  refine sy_pure 20 (.adr 2 3) ?_
  refine sy_ldv 21 (.v (a2.v)) ty26 part_agg ?_
  refine sy_pure 22 (.adr 3 3) ?_
  refine sy_ldv 23 (.v (b2.v)) ty26 part_agg ?_
  refine sy_call 9 47 [a1.v, b1.v] ?_
  intro w11 u11 e11 d11
  have k16 := k_ratMul d11 (ha1.ext e11) (hb1.ext e11) (by omega) (by omega)
  with_reducible refine Post.mono k16 ?_
  clear k16
  rintro _ u14 g15 ⟨r12, rfl, h13⟩
  refine sy_call 14 47 [a1.v, b2.v] ?_
  intro w17 u17 e17 d17
  have k22 := k_ratMul d17 (ha1.ext (e11.trans (g15.ext.trans e17))) (hb2.ext (e11.trans (g15.ext.trans e17))) (by omega) (by omega)
  with_reducible refine Post.mono k22 ?_
  clear k22
  rintro _ u20 g21 ⟨r18, rfl, h19⟩
  refine sy_call 19 47 [a2.v, b1.v] ?_
  intro w23 u23 e23 d23
  have k28 := k_ratMul d23 (ha2.ext (e11.trans (g15.ext.trans (e17.trans (g21.ext.trans e23))))) (hb1.ext (e11.trans (g15.ext.trans (e17.trans (g21.ext.trans e23))))) (by omega) (by omega)
  with_reducible refine Post.mono k28 ?_
  clear k28
  rintro _ u26 g27 ⟨r24, rfl, h25⟩
  refine sy_call 24 47 [a2.v, b2.v] ?_
  intro w29 u29 e29 d29
  have k34 := k_ratMul d29 (ha2.ext (e11.trans (g15.ext.trans (e17.trans (g21.ext.trans (e23.trans (g27.ext.trans e29))))))) (hb2.ext (e11.trans (g15.ext.trans (e17.trans (g21.ext.trans (e23.trans (g27.ext.trans e29))))))) (by omega) (by omega)
  with_reducible refine Post.mono k34 ?_
  clear k34
  rintro _ u32 g33 ⟨r30, rfl, h31⟩
  refine sy_pure 25 (.v (.agg #[.bool r12.s, .slice r12.m.a r12.m.n r12.m.c, .slice r12.d.a r12.d.n r12.d.c, .bool r18.s, .slice r18.m.a r18.m.n r18.m.c, .slice r18.d.a r18.d.n r18.d.c, .bool r24.s, .slice r24.m.a r24.m.n r24.m.c, .slice r24.d.a r24.d.n r24.d.c, .bool r30.s, .slice r30.m.a r30.m.n r30.m.c, .slice r30.d.a r30.d.n r30.d.c])) ?_
  refine sy_call 26 46 [.agg #[.bool r12.s, .slice r12.m.a r12.m.n r12.m.c, .slice r12.d.a r12.d.n r12.d.c, .bool r18.s, .slice r18.m.a r18.m.n r18.m.c, .slice r18.d.a r18.d.n r18.d.c, .bool r24.s, .slice r24.m.a r24.m.n r24.m.c, .slice r24.d.a r24.d.n r24.d.c, .bool r30.s, .slice r30.m.a r30.m.n r30.m.c, .slice r30.d.a r30.d.n r30.d.c]] ?_
  intro w35 u35 e35 d35
  have k42 := k_around d35 (h13.ext (e17.trans (g21.ext.trans (e23.trans (g27.ext.trans (e29.trans (g33.ext.trans e35))))))) (h19.ext (e23.trans (g27.ext.trans (e29.trans (g33.ext.trans e35))))) (h25.ext (e29.trans (g33.ext.trans e35))) (h31.ext e35) (by omega)
  with_reducible refine Post.mono k42 ?_
  clear k42
  rintro _ u40 g41 ⟨r36, r38, rfl, h37, h39⟩
  refine sy_store ⟨28, r36.cs ++ r38.cs⟩ ty28 ?_
  refine sy_next 27 [(4, .adr 4 0)] [(4, ⟨28, r36.cs ++ r38.cs⟩)] ?_
  refine sw_ret (ret0 [.agg #[.bool r36.s, .slice r36.m.a r36.m.n r36.m.c, .slice r36.d.a r36.d.n r36.d.c, .bool r38.s, .slice r38.m.a r38.m.n r38.m.c, .slice r38.d.a r38.d.n r38.d.c]] ⟨res_cell ty28 part_agg, trivial⟩ fun u43 e44 => ?_)
  refine ⟨r36, r38, rfl, RatN.more (K := (K + L)) ?_ (by omega), RatN.more (K := (K + L)) ?_ (by omega)⟩
  · exact (h37.ext e44)
  · exact (h39.ext e44)
theorem k_ivSquare {u w : World} {a1 a2 : RL} {x1 x2 : Rat} {K : Nat} (d : Dat u w) (ha1 : RatV u a1 x1 K) (ha2 : RatV u a2 x2 K) (hK : K ≤ 50000000) : Calls Try.prog 18 #[IV a1 a2] w (Post u w fun v u' => ∃ p q : RL, v = IV p q ∧ RatN u' p (if Nt.sgI x1 x2 = 0 then 0 else Nt.lo (x1 * x1) (x2 * x2)) (K + K + 2) ∧ RatN u' q (Nt.hi (x1 * x1) (x2 * x2)) (K + K + 2)) := by
  refine calls_sym (args := [.agg #[.bool a1.s, .slice a1.m.a a1.m.n a1.m.c, .slice a1.d.a a1.d.n a1.d.c, .bool a2.s, .slice a2.m.a a2.m.n a2.m.c, .slice a2.d.a a2.d.n a2.d.c]]) Try.func18 rfl Try.ntmps18 (rs := [.cell 2 28]) Try.results18 (le_b rfl) (le_b rfl) d ?_
  refine sw_seq ?_
  refine sw_reg ?_
  refine sy_new 1 ⟨28, a1.cs ++ a2.cs⟩ ?_
  refine sy_new 2 ⟨28, [.bool false, .slice none 0 0, .slice none 0 0, .bool false, .slice none 0 0, .slice none 0 0]⟩ ?_
  refine sy_next 26 [(1, .adr 1 0), (2, .adr 2 0)] [(1, ⟨28, a1.cs ++ a2.cs⟩), (2, ⟨28, [.bool false, .slice none 0 0, .slice none 0 0, .bool false, .slice none 0 0, .slice none 0 0]⟩)] ?_
  refine sw_seq ?_
  refine sw_any [0, 1, 0, 4, 15, 0, 32, 0, 128, 511, 0, 0, 4095, 8191] [(0, []), (1, []), (2, []), (3, []), (5, []), (6, []), (7, []), (8, []), (10, []), (11, []), (4, []), (9, []), (12, []), (13, [])] (by kernel_rfl) (by kernel_rfl) ?_
  refine sy_pure 5 (.adr 1 0) ?_
  refine sy_ldv 6 (.v (a1.v)) ty26 part_agg ?_
  refine sy_pure 7 (.adr 1 0) ?_
  refine sy_ldv 8 (.v (a1.v)) ty26 part_agg ?_
  refine sy_pure 10 (.adr 1 3) ?_
  refine sy_ldv 11 (.v (a2.v)) ty26 part_agg ?_
  refine sy_pure 12 (.adr 1 3) ?_
  refine sy_ldv 13 (.v (a2.v)) ty26 part_agg ?_
  refine sy_new 3 ⟨26, [.bool false, .slice none 0 0, .slice none 0 0]⟩ ?_
  refine sy_new 4 ⟨26, [.bool false, .slice none 0 0, .slice none 0 0]⟩ ?_
  refine sy_call 9 47 [a1.v, a1.v] ?_
  intro w11 u11 e11 d11
  have k16 := k_ratMul d11 (ha1.ext e11) (ha1.ext e11) (by omega) (by omega)
  with_reducible refine Post.mono k16 ?_
  clear k16
  rintro _ u14 g15 ⟨r12, rfl, h13⟩
  refine sy_call 14 47 [a2.v, a2.v] ?_
  intro w17 u17 e17 d17
  have k22 := k_ratMul d17 (ha2.ext (e11.trans (g15.ext.trans e17))) (ha2.ext (e11.trans (g15.ext.trans e17))) (by omega) (by omega)
  with_reducible refine Post.mono k22 ?_
  clear k22
  rintro _ u20 g21 ⟨r18, rfl, h19⟩
  refine sy_store ⟨26, r12.cs⟩ ty26 ?_
  refine sy_store ⟨26, r18.cs⟩ ty26 ?_
  refine sy_next 26 [(1, .adr 1 0), (2, .adr 2 0), (3, .adr 3 0), (4, .adr 4 0)] [(1, ⟨28, a1.cs ++ a2.cs⟩), (2, ⟨28, [.bool false, .slice none 0 0, .slice none 0 0, .bool false, .slice none 0 0, .slice none 0 0]⟩), (3, ⟨26, r12.cs⟩), (4, ⟨26, r18.cs⟩)] ?_
  refine sw_seq ?_
  refine sw_seq ?_
  refine sw_reg ?_
  refine sy_ldv 15 (.v (.agg #[.bool a1.s, .slice a1.m.a a1.m.n a1.m.c, .slice a1.d.a a1.d.n a1.d.c, .bool a2.s, .slice a2.m.a a2.m.n a2.m.c, .slice a2.d.a a2.d.n a2.d.c])) ty28 part_agg ?_
  refine sy_call 16 48 [.agg #[.bool a1.s, .slice a1.m.a a1.m.n a1.m.c, .slice a1.d.a a1.d.n a1.d.c, .bool a2.s, .slice a2.m.a a2.m.n a2.m.c, .slice a2.d.a a2.d.n a2.d.c]] ?_
  intro w23 u23 e23 d23
  have k26 := k_ivSign d23 (ha1.ext (e11.trans (g15.ext.trans (e17.trans (g21.ext.trans e23))))) (ha2.ext (e11.trans (g15.ext.trans (e17.trans (g21.ext.trans e23))))) (by omega)
  with_reducible refine Post.mono k26 ?_
  clear k26
  rintro _ u24 g25 rfl
  refine sy_pure 17 (.v (.bool ((Nt.sgI x1 x2) == 0))) ?_
  refine sy_next 26 [(2, .adr 2 0), (3, .adr 3 0), (4, .adr 4 0), (17, .v (.bool ((Nt.sgI x1 x2) == 0)))] [(2, ⟨28, [.bool false, .slice none 0 0, .slice none 0 0, .bool false, .slice none 0 0, .slice none 0 0]⟩), (3, ⟨26, r12.cs⟩), (4, ⟨26, r18.cs⟩)] ?_
  refine sw_cond (b := (Nt.sgI x1 x2) == 0) (by kernel_rfl) (fun hb27 => ?_) (fun hb27 => ?_)
  · replace hb27 : ((Nt.sgI x1 x2) == 0) = true := hb27
    refine sw_seq ?_
    refine sw_any [0, 0, 0, 7, 15, 31] [(1, []), (2, []), (0, []), (3, []), (4, []), (5, [])] (by kernel_rfl) (by kernel_rfl) ?_
    refine sy_ldv 19 (.v (r12.v)) ty26 part_agg ?_
    refine sy_ldv 20 (.v (r18.v)) ty26 part_agg ?_
    refine sy_call 18 49 [.int .i64 0] ?_
    intro w28 u28 e28 d28
    have k33 := k_ratOf d28 (z := 0) (by omega) (by omega)
    with_reducible refine Post.mono k33 ?_
    clear k33
    rintro _ u31 g32 ⟨r29, rfl, h30⟩
    refine sy_call 21 40 [r12.v, r18.v] ?_
    intro w34 u34 e34 d34
    have k39 := k_greaterN d34 (h13.ext (e17.trans (g21.ext.trans (e23.trans (g25.ext.trans (e28.trans (g32.ext.trans e34))))))) (h19.ext (e23.trans (g25.ext.trans (e28.trans (g32.ext.trans e34))))) (by omega)
    with_reducible refine Post.mono k39 ?_
    clear k39
    rintro _ u37 g38 ⟨r35, rfl, h36⟩
    refine sy_pure 22 (.v (.agg #[.bool r29.s, .slice r29.m.a r29.m.n r29.m.c, .slice r29.d.a r29.d.n r29.d.c, .bool r35.s, .slice r35.m.a r35.m.n r35.m.c, .slice r35.d.a r35.d.n r35.d.c])) ?_
    refine sy_store ⟨28, r29.cs ++ r35.cs⟩ ty28 ?_
    refine sy_next 26 [(2, .adr 2 0)] [(2, ⟨28, r29.cs ++ r35.cs⟩)] ?_
    refine sw_ret (mpr_seq (ret0 [.agg #[.bool r29.s, .slice r29.m.a r29.m.n r29.m.c, .slice r29.d.a r29.d.n r29.d.c, .bool r35.s, .slice r35.m.a r35.m.n r35.m.c, .slice r35.d.a r35.d.n r35.d.c]] ⟨res_cell ty28 part_agg, trivial⟩ fun u40 e41 => ?_))
    refine ⟨r29, r35, rfl, RatN.more (K := 2) ?_ (by omega), RatN.more (K := (K + K)) ?_ (by omega)⟩
    · rw [if_pos (by simpa using hb27)]
      exact (h30.ext (e34.trans (g38.ext.trans e41)))
    · exact (h36.ext e41)
  · replace hb27 : ((Nt.sgI x1 x2) == 0) = false := hb27
    refine sw_skip (mp_seq ?_)
    refine sw_seq ?_
    refine sw_reg ?_
    refine sy_ldv 23 (.v (r12.v)) ty26 part_agg ?_
    refine sy_ldv 24 (.v (r18.v)) ty26 part_agg ?_
    refine sy_call 25 43 [r12.v, r18.v] ?_
    intro w42 u42 e42 d42
    have k49 := k_ivMake d42 (h13.ext (e17.trans (g21.ext.trans (e23.trans (g25.ext.trans e42))))).raw (h19.ext (e23.trans (g25.ext.trans e42))).raw (by omega)
    with_reducible refine Post.mono k49 ?_
    clear k49
    rintro _ u47 g48 ⟨r43, r45, rfl, h44, h46⟩
    refine sy_store ⟨28, r43.cs ++ r45.cs⟩ ty28 ?_
    refine sy_next 26 [(2, .adr 2 0)] [(2, ⟨28, r43.cs ++ r45.cs⟩)] ?_
    refine sw_ret (ret0 [.agg #[.bool r43.s, .slice r43.m.a r43.m.n r43.m.c, .slice r43.d.a r43.d.n r43.d.c, .bool r45.s, .slice r45.m.a r45.m.n r45.m.c, .slice r45.d.a r45.d.n r45.d.c]] ⟨res_cell ty28 part_agg, trivial⟩ fun u50 e51 => ?_)
    refine ⟨r43, r45, rfl, RatN.more (K := (K + K)) ?_ (by omega), RatN.more (K := (K + K)) ?_ (by omega)⟩
    · rw [if_neg (by simpa using hb27)]
      exact (h44.ext e51)
    · exact (h46.ext e51)
theorem hull_ord (a b c d : Rat) : Nt.lo (Nt.lo (Nt.lo a b) (Nt.lo c d)) (Nt.hi (Nt.hi a b) (Nt.hi c d)) = Nt.lo (Nt.lo a b) (Nt.lo c d) ∧ Nt.hi (Nt.lo (Nt.lo a b) (Nt.lo c d)) (Nt.hi (Nt.hi a b) (Nt.hi c d)) = Nt.hi (Nt.hi a b) (Nt.hi c d) := by
  apply Nt.lo_of_le
  unfold Nt.lo Nt.hi
  grind
theorem k_ivHull {u w : World} {a1 a2 : RL} {x1 x2 : Rat} {b1 b2 : RL} {y1 y2 : Rat} {K L : Nat} (d : Dat u w) (ha1 : RatV u a1 x1 K) (ha2 : RatV u a2 x2 K) (hb1 : RatV u b1 y1 L) (hb2 : RatV u b2 y2 L) (hK : K ≤ 100000000) (hL : L ≤ 100000000) : Calls Try.prog 13 #[IV a1 a2, IV b1 b2] w (Post u w fun v u' => ∃ p q : RL, v = IV p q ∧ RatN u' p (Nt.lo (Nt.lo x1 x2) (Nt.lo y1 y2)) (max K L) ∧ RatN u' q (Nt.hi (Nt.hi x1 x2) (Nt.hi y1 y2)) (max K L)) := by
  refine calls_sym (args := [.agg #[.bool a1.s, .slice a1.m.a a1.m.n a1.m.c, .slice a1.d.a a1.d.n a1.d.c, .bool a2.s, .slice a2.m.a a2.m.n a2.m.c, .slice a2.d.a a2.d.n a2.d.c], .agg #[.bool b1.s, .slice b1.m.a b1.m.n b1.m.c, .slice b1.d.a b1.d.n b1.d.c, .bool b2.s, .slice b2.m.a b2.m.n b2.m.c, .slice b2.d.a b2.d.n b2.d.c]]) Try.func13 rfl Try.ntmps13 (rs := [.cell 4 28]) Try.results13 (le_b rfl) (le_b rfl) d ?_
  refine sw_seq ?_
  refine sw_reg ?_
  refine sy_new 2 ⟨28, a1.cs ++ a2.cs⟩ ?_
  refine sy_new 3 ⟨28, b1.cs ++ b2.cs⟩ ?_
  refine sy_new 4 ⟨28, [.bool false, .slice none 0 0, .slice none 0 0, .bool false, .slice none 0 0, .slice none 0 0]⟩ ?_
  refine sy_next 26 [(2, .adr 2 0), (3, .adr 3 0), (4, .adr 4 0)] [(2, ⟨28, a1.cs ++ a2.cs⟩), (3, ⟨28, b1.cs ++ b2.cs⟩), (4, ⟨28, [.bool false, .slice none 0 0, .slice none 0 0, .bool false, .slice none 0 0, .slice none 0 0]⟩)] ?_
  refine sw_seq ?_
  refine sw_reg ?_
  refine sy_ldv 10 (.v (.agg #[.bool a1.s, .slice a1.m.a a1.m.n a1.m.c, .slice a1.d.a a1.d.n a1.d.c, .bool a2.s, .slice a2.m.a a2.m.n a2.m.c, .slice a2.d.a a2.d.n a2.d.c])) ty28 part_agg ?_
  refine sy_call 11 39 [.agg #[.bool a1.s, .slice a1.m.a a1.m.n a1.m.c, .slice a1.d.a a1.d.n a1.d.c, .bool a2.s, .slice a2.m.a a2.m.n a2.m.c, .slice a2.d.a a2.d.n a2.d.c]] ?_
  intro w11 u11 e11 d11
  have k18 := k_ends d11 (ha1.ext e11) (ha2.ext e11) (by omega)
  with_reducible refine Post.mono k18 ?_
  clear k18
  rintro _ u16 g17 ⟨r12, r14, rfl, h13, h15⟩
  refine sy_pure 9 (.v (.tuple #[r12.v, r14.v])) ?_
  refine sy_pure 12 (.v (r12.v)) ?_
  refine sy_pure 13 (.v (r14.v)) ?_
  refine sy_new 5 ⟨26, [.bool false, .slice none 0 0, .slice none 0 0]⟩ ?_
  refine sy_new 6 ⟨26, [.bool false, .slice none 0 0, .slice none 0 0]⟩ ?_
  refine sy_store ⟨26, r12.cs⟩ ty26 ?_
  refine sy_store ⟨26, r14.cs⟩ ty26 ?_
  refine sy_next 26 [(3, .adr 3 0), (4, .adr 4 0), (5, .adr 5 0), (6, .adr 6 0)] [(3, ⟨28, b1.cs ++ b2.cs⟩), (4, ⟨28, [.bool false, .slice none 0 0, .slice none 0 0, .bool false, .slice none 0 0, .slice none 0 0]⟩), (5, ⟨26, r12.cs⟩), (6, ⟨26, r14.cs⟩)] ?_
  refine sw_seq ?_
  refine sw_reg ?_
  refine sy_ldv 15 (.v (.agg #[.bool b1.s, .slice b1.m.a b1.m.n b1.m.c, .slice b1.d.a b1.d.n b1.d.c, .bool b2.s, .slice b2.m.a b2.m.n b2.m.c, .slice b2.d.a b2.d.n b2.d.c])) ty28 part_agg ?_
  refine sy_call 16 39 [.agg #[.bool b1.s, .slice b1.m.a b1.m.n b1.m.c, .slice b1.d.a b1.d.n b1.d.c, .bool b2.s, .slice b2.m.a b2.m.n b2.m.c, .slice b2.d.a b2.d.n b2.d.c]] ?_
  intro w19 u19 e19 d19
  have k26 := k_ends d19 (hb1.ext (e11.trans (g17.ext.trans e19))) (hb2.ext (e11.trans (g17.ext.trans e19))) (by omega)
  with_reducible refine Post.mono k26 ?_
  clear k26
  rintro _ u24 g25 ⟨r20, r22, rfl, h21, h23⟩
  refine sy_pure 14 (.v (.tuple #[r20.v, r22.v])) ?_
  refine sy_pure 17 (.v (r20.v)) ?_
  refine sy_pure 18 (.v (r22.v)) ?_
  refine sy_new 7 ⟨26, [.bool false, .slice none 0 0, .slice none 0 0]⟩ ?_
  refine sy_new 8 ⟨26, [.bool false, .slice none 0 0, .slice none 0 0]⟩ ?_
  refine sy_store ⟨26, r20.cs⟩ ty26 ?_
  refine sy_store ⟨26, r22.cs⟩ ty26 ?_
  refine sy_next 26 [(4, .adr 4 0), (5, .adr 5 0), (6, .adr 6 0), (7, .adr 7 0), (8, .adr 8 0)] [(4, ⟨28, [.bool false, .slice none 0 0, .slice none 0 0, .bool false, .slice none 0 0, .slice none 0 0]⟩), (5, ⟨26, r12.cs⟩), (6, ⟨26, r14.cs⟩), (7, ⟨26, r20.cs⟩), (8, ⟨26, r22.cs⟩)] ?_
  refine sw_seq ?_
  refine sw_any [0, 0, 3, 0, 0, 31, 63, 127] [(0, []), (1, []), (3, []), (4, []), (2, []), (5, []), (6, []), (7, [])] (by kernel_rfl) (by kernel_rfl) ?_
  refine sy_ldv 19 (.v (r12.v)) ty26 part_agg ?_
  refine sy_ldv 20 (.v (r20.v)) ty26 part_agg ?_
  refine sy_ldv 22 (.v (r14.v)) ty26 part_agg ?_
  refine sy_ldv 23 (.v (r22.v)) ty26 part_agg ?_
  refine sy_call 21 41 [r12.v, r20.v] ?_
  intro w27 u27 e27 d27
  have k32 := k_lesserV d27 ((h13.ext (e19.trans (g25.ext.trans e27))).more (Nat.le_max_left K L)) ((h21.ext e27).more (Nat.le_max_right K L)) (by omega)
  with_reducible refine Post.mono k32 ?_
  clear k32
  rintro _ u30 g31 ⟨r28, rfl, h29⟩
  refine sy_call 24 40 [r14.v, r22.v] ?_
  intro w33 u33 e33 d33
  have k38 := k_greaterV d33 ((h15.ext (e19.trans (g25.ext.trans (e27.trans (g31.ext.trans e33))))).more (Nat.le_max_left K L)) ((h23.ext (e27.trans (g31.ext.trans e33))).more (Nat.le_max_right K L)) (by omega)
  with_reducible refine Post.mono k38 ?_
  clear k38
  rintro _ u36 g37 ⟨r34, rfl, h35⟩
  refine sy_call 25 43 [r28.v, r34.v] ?_
  intro w39 u39 e39 d39
  have k46 := k_ivMake d39 (h29.ext (e33.trans (g37.ext.trans e39))) (h35.ext e39) (by omega)
  with_reducible refine Post.mono k46 ?_
  clear k46
  rintro _ u44 g45 ⟨r40, r42, rfl, h41, h43⟩
  refine sy_store ⟨28, r40.cs ++ r42.cs⟩ ty28 ?_
  refine sy_next 26 [(4, .adr 4 0)] [(4, ⟨28, r40.cs ++ r42.cs⟩)] ?_
  refine sw_ret (ret0 [.agg #[.bool r40.s, .slice r40.m.a r40.m.n r40.m.c, .slice r40.d.a r40.d.n r40.d.c, .bool r42.s, .slice r42.m.a r42.m.n r42.m.c, .slice r42.d.a r42.d.n r42.d.c]] ⟨res_cell ty28 part_agg, trivial⟩ fun u47 e48 => ?_)
  refine ⟨r40, r42, rfl, RatN.more (K := (max K L)) ?_ (by omega), RatN.more (K := (max K L)) ?_ (by omega)⟩
  · rw [← (hull_ord x1 x2 y1 y2).1]
    exact (h41.ext e48)
  · rw [← (hull_ord x1 x2 y1 y2).2]
    exact (h43.ext e48)
/-- What Meet answers: nothing in common, or the interval. -/
def MeetR (l h : Rat) (K : Nat) (v : Value) (u : World) : Prop := (h < l ∧ v = .tuple #[.agg #[.bool false, .slice none 0 0, .slice none 0 0, .bool false, .slice none 0 0, .slice none 0 0], .bool false]) ∨ (l ≤ h ∧ ∃ p q : RL, v = .tuple #[IV p q, .bool true] ∧ RatN u p l K ∧ RatN u q h K)
theorem k_ivMeet {u w : World} {a1 a2 : RL} {x1 x2 : Rat} {b1 b2 : RL} {y1 y2 : Rat} {K L : Nat} (d : Dat u w) (ha1 : RatV u a1 x1 K) (ha2 : RatV u a2 x2 K) (hb1 : RatV u b1 y1 L) (hb2 : RatV u b2 y2 L) (hK : K ≤ 100000000) (hL : L ≤ 100000000) : Calls Try.prog 11 #[IV a1 a2, IV b1 b2] w (Post u w fun v u' => MeetR (Nt.hi (Nt.lo x1 x2) (Nt.lo y1 y2)) (Nt.lo (Nt.hi x1 x2) (Nt.hi y1 y2)) (max K L) v u') := by
  refine calls_sym (args := [.agg #[.bool a1.s, .slice a1.m.a a1.m.n a1.m.c, .slice a1.d.a a1.d.n a1.d.c, .bool a2.s, .slice a2.m.a a2.m.n a2.m.c, .slice a2.d.a a2.d.n a2.d.c], .agg #[.bool b1.s, .slice b1.m.a b1.m.n b1.m.c, .slice b1.d.a b1.d.n b1.d.c, .bool b2.s, .slice b2.m.a b2.m.n b2.m.c, .slice b2.d.a b2.d.n b2.d.c]]) Try.func11 rfl Try.ntmps11 (rs := [.cell 4 28, .tmp 5]) Try.results11 (le_b rfl) (le_b rfl) d ?_
  refine sw_seq ?_
  refine sw_reg ?_
  refine sy_new 2 ⟨28, a1.cs ++ a2.cs⟩ ?_
  refine sy_new 3 ⟨28, b1.cs ++ b2.cs⟩ ?_
  refine sy_new 4 ⟨28, [.bool false, .slice none 0 0, .slice none 0 0, .bool false, .slice none 0 0, .slice none 0 0]⟩ ?_
  refine sy_pure 5 (.v (.bool false)) ?_
  refine sy_next 36 [(2, .adr 2 0), (3, .adr 3 0), (4, .adr 4 0)] [(2, ⟨28, a1.cs ++ a2.cs⟩), (3, ⟨28, b1.cs ++ b2.cs⟩), (4, ⟨28, [.bool false, .slice none 0 0, .slice none 0 0, .bool false, .slice none 0 0, .slice none 0 0]⟩)] ?_
  refine sw_seq ?_
  refine sw_reg ?_
  refine sy_ldv 13 (.v (.agg #[.bool a1.s, .slice a1.m.a a1.m.n a1.m.c, .slice a1.d.a a1.d.n a1.d.c, .bool a2.s, .slice a2.m.a a2.m.n a2.m.c, .slice a2.d.a a2.d.n a2.d.c])) ty28 part_agg ?_
  refine sy_call 14 39 [.agg #[.bool a1.s, .slice a1.m.a a1.m.n a1.m.c, .slice a1.d.a a1.d.n a1.d.c, .bool a2.s, .slice a2.m.a a2.m.n a2.m.c, .slice a2.d.a a2.d.n a2.d.c]] ?_
  intro w11 u11 e11 d11
  have k18 := k_ends d11 (ha1.ext e11) (ha2.ext e11) (by omega)
  with_reducible refine Post.mono k18 ?_
  clear k18
  rintro _ u16 g17 ⟨r12, r14, rfl, h13, h15⟩
  refine sy_pure 12 (.v (.tuple #[r12.v, r14.v])) ?_
  refine sy_pure 15 (.v (r12.v)) ?_
  refine sy_pure 16 (.v (r14.v)) ?_
  refine sy_new 6 ⟨26, [.bool false, .slice none 0 0, .slice none 0 0]⟩ ?_
  refine sy_new 7 ⟨26, [.bool false, .slice none 0 0, .slice none 0 0]⟩ ?_
  refine sy_store ⟨26, r12.cs⟩ ty26 ?_
  refine sy_store ⟨26, r14.cs⟩ ty26 ?_
  refine sy_next 36 [(3, .adr 3 0), (4, .adr 4 0), (6, .adr 6 0), (7, .adr 7 0)] [(3, ⟨28, b1.cs ++ b2.cs⟩), (4, ⟨28, [.bool false, .slice none 0 0, .slice none 0 0, .bool false, .slice none 0 0, .slice none 0 0]⟩), (6, ⟨26, r12.cs⟩), (7, ⟨26, r14.cs⟩)] ?_
  refine sw_seq ?_
  refine sw_reg ?_
  refine sy_ldv 18 (.v (.agg #[.bool b1.s, .slice b1.m.a b1.m.n b1.m.c, .slice b1.d.a b1.d.n b1.d.c, .bool b2.s, .slice b2.m.a b2.m.n b2.m.c, .slice b2.d.a b2.d.n b2.d.c])) ty28 part_agg ?_
  refine sy_call 19 39 [.agg #[.bool b1.s, .slice b1.m.a b1.m.n b1.m.c, .slice b1.d.a b1.d.n b1.d.c, .bool b2.s, .slice b2.m.a b2.m.n b2.m.c, .slice b2.d.a b2.d.n b2.d.c]] ?_
  intro w19 u19 e19 d19
  have k26 := k_ends d19 (hb1.ext (e11.trans (g17.ext.trans e19))) (hb2.ext (e11.trans (g17.ext.trans e19))) (by omega)
  with_reducible refine Post.mono k26 ?_
  clear k26
  rintro _ u24 g25 ⟨r20, r22, rfl, h21, h23⟩
  refine sy_pure 17 (.v (.tuple #[r20.v, r22.v])) ?_
  refine sy_pure 20 (.v (r20.v)) ?_
  refine sy_pure 21 (.v (r22.v)) ?_
  refine sy_new 8 ⟨26, [.bool false, .slice none 0 0, .slice none 0 0]⟩ ?_
  refine sy_new 9 ⟨26, [.bool false, .slice none 0 0, .slice none 0 0]⟩ ?_
  refine sy_store ⟨26, r20.cs⟩ ty26 ?_
  refine sy_store ⟨26, r22.cs⟩ ty26 ?_
  refine sy_next 36 [(4, .adr 4 0), (6, .adr 6 0), (7, .adr 7 0), (8, .adr 8 0), (9, .adr 9 0)] [(4, ⟨28, [.bool false, .slice none 0 0, .slice none 0 0, .bool false, .slice none 0 0, .slice none 0 0]⟩), (6, ⟨26, r12.cs⟩), (7, ⟨26, r14.cs⟩), (8, ⟨26, r20.cs⟩), (9, ⟨26, r22.cs⟩)] ?_
  refine sw_seq ?_
  refine sw_any [0, 0, 3, 0, 0, 31, 0, 0, 255, 511] [(0, []), (1, []), (3, []), (4, []), (6, []), (7, []), (2, []), (5, []), (8, []), (9, [])] (by kernel_rfl) (by kernel_rfl) ?_
  refine sy_ldv 22 (.v (r12.v)) ty26 part_agg ?_
  refine sy_ldv 23 (.v (r20.v)) ty26 part_agg ?_
  refine sy_ldv 25 (.v (r14.v)) ty26 part_agg ?_
  refine sy_ldv 26 (.v (r22.v)) ty26 part_agg ?_
  refine sy_new 10 ⟨26, [.bool false, .slice none 0 0, .slice none 0 0]⟩ ?_
  refine sy_new 11 ⟨26, [.bool false, .slice none 0 0, .slice none 0 0]⟩ ?_
  refine sy_call 24 40 [r12.v, r20.v] ?_
  intro w27 u27 e27 d27
  have k32 := k_greaterV d27 ((h13.ext (e19.trans (g25.ext.trans e27))).more (Nat.le_max_left K L)) ((h21.ext e27).more (Nat.le_max_right K L)) (by omega)
  with_reducible refine Post.mono k32 ?_
  clear k32
  rintro _ u30 g31 ⟨r28, rfl, h29⟩
  refine sy_call 27 41 [r14.v, r22.v] ?_
  intro w33 u33 e33 d33
  have k38 := k_lesserV d33 ((h15.ext (e19.trans (g25.ext.trans (e27.trans (g31.ext.trans e33))))).more (Nat.le_max_left K L)) ((h23.ext (e27.trans (g31.ext.trans e33))).more (Nat.le_max_right K L)) (by omega)
  with_reducible refine Post.mono k38 ?_
  clear k38
  rintro _ u36 g37 ⟨r34, rfl, h35⟩
  refine sy_store ⟨26, r28.cs⟩ ty26 ?_
  refine sy_store ⟨26, r34.cs⟩ ty26 ?_
  refine sy_next 36 [(4, .adr 4 0), (10, .adr 10 0), (11, .adr 11 0)] [(4, ⟨28, [.bool false, .slice none 0 0, .slice none 0 0, .bool false, .slice none 0 0, .slice none 0 0]⟩), (10, ⟨26, r28.cs⟩), (11, ⟨26, r34.cs⟩)] ?_
  refine sw_seq ?_
  refine sw_seq ?_
  refine sw_reg ?_
  refine sy_ldv 28 (.v (r28.v)) ty26 part_agg ?_
  refine sy_ldv 29 (.v (r34.v)) ty26 part_agg ?_
  refine sy_call 30 42 [r28.v, r34.v] ?_
  intro w39 u39 e39 d39
  have k42 := k_ratCompare d39 (h29.ext (e33.trans (g37.ext.trans e39))) (h35.ext e39) (by omega) (by omega)
  with_reducible refine Post.mono k42 ?_
  clear k42
  rintro _ u40 g41 rfl
  refine sy_pure 31 (.v (.bool (decide ((0 : Int) < (Nt.cmpQ (Nt.hi (Nt.lo x1 x2) (Nt.lo y1 y2)) (Nt.lo (Nt.hi x1 x2) (Nt.hi y1 y2))))))) ?_
  refine sy_next 36 [(4, .adr 4 0), (10, .adr 10 0), (11, .adr 11 0), (31, .v (.bool (decide ((0 : Int) < (Nt.cmpQ (Nt.hi (Nt.lo x1 x2) (Nt.lo y1 y2)) (Nt.lo (Nt.hi x1 x2) (Nt.hi y1 y2)))))))] [(4, ⟨28, [.bool false, .slice none 0 0, .slice none 0 0, .bool false, .slice none 0 0, .slice none 0 0]⟩), (10, ⟨26, r28.cs⟩), (11, ⟨26, r34.cs⟩)] ?_
  refine sw_cond (b := decide ((0 : Int) < (Nt.cmpQ (Nt.hi (Nt.lo x1 x2) (Nt.lo y1 y2)) (Nt.lo (Nt.hi x1 x2) (Nt.hi y1 y2))))) (by kernel_rfl) (fun hb43 => ?_) (fun hb43 => ?_)
  · replace hb43 : (decide ((0 : Int) < (Nt.cmpQ (Nt.hi (Nt.lo x1 x2) (Nt.lo y1 y2)) (Nt.lo (Nt.hi x1 x2) (Nt.hi y1 y2))))) = true := hb43
    have qhb43 := of_decide_eq_true hb43
    refine sw_seq ?_
    refine sw_reg ?_
    refine sy_pure 32 (.v (.agg #[.bool false, .slice none 0 0, .slice none 0 0, .bool false, .slice none 0 0, .slice none 0 0])) ?_
    refine sy_store ⟨28, [.bool false, .slice none 0 0, .slice none 0 0, .bool false, .slice none 0 0, .slice none 0 0]⟩ ty28 ?_
    refine sy_pure 5 (.v (.bool false)) ?_
    refine sy_next 36 [(4, .adr 4 0), (5, .v (.bool false))] [(4, ⟨28, [.bool false, .slice none 0 0, .slice none 0 0, .bool false, .slice none 0 0, .slice none 0 0]⟩)] ?_
    refine sw_ret (mpr_seq (ret0 [.agg #[.bool false, .slice none 0 0, .slice none 0 0, .bool false, .slice none 0 0, .slice none 0 0], .bool false] ⟨res_cell ty28 part_agg, res_tmp, trivial⟩ fun u44 e45 => ?_))
    rw [Nt.cmpQ_gt] at hb43
    exact .inl ⟨of_decide_eq_true hb43, rfl⟩
  · replace hb43 : (decide ((0 : Int) < (Nt.cmpQ (Nt.hi (Nt.lo x1 x2) (Nt.lo y1 y2)) (Nt.lo (Nt.hi x1 x2) (Nt.hi y1 y2))))) = false := hb43
    have qhb43 := of_decide_eq_false hb43
    refine sw_skip (mp_seq ?_)
    refine sw_seq ?_
    refine sw_reg ?_
    refine sy_ldv 33 (.v (r28.v)) ty26 part_agg ?_
    refine sy_ldv 34 (.v (r34.v)) ty26 part_agg ?_
    refine sy_call 35 43 [r28.v, r34.v] ?_
    intro w46 u46 e46 d46
    have k53 := k_ivMake d46 (h29.ext (e33.trans (g37.ext.trans (e39.trans (g41.ext.trans e46))))) (h35.ext (e39.trans (g41.ext.trans e46))) (by omega)
    with_reducible refine Post.mono k53 ?_
    clear k53
    rintro _ u51 g52 ⟨r47, r49, rfl, h48, h50⟩
    refine sy_store ⟨28, r47.cs ++ r49.cs⟩ ty28 ?_
    refine sy_pure 5 (.v (.bool true)) ?_
    refine sy_next 36 [(4, .adr 4 0), (5, .v (.bool true))] [(4, ⟨28, r47.cs ++ r49.cs⟩)] ?_
    refine sw_ret (ret0 [.agg #[.bool r47.s, .slice r47.m.a r47.m.n r47.m.c, .slice r47.d.a r47.d.n r47.d.c, .bool r49.s, .slice r49.m.a r49.m.n r49.m.c, .slice r49.d.a r49.d.n r49.d.c], .bool true] ⟨res_cell ty28 part_agg, res_tmp, trivial⟩ fun u54 e55 => ?_)
    rw [Nt.cmpQ_gt] at hb43
    have hle : (Nt.hi (Nt.lo x1 x2) (Nt.lo y1 y2)) ≤ (Nt.lo (Nt.hi x1 x2) (Nt.hi y1 y2)) := by have h9 := of_decide_eq_false hb43; grind
    have h8 := Nt.lo_of_le hle
    refine .inr ⟨hle, r47, r49, rfl, ?_, ?_⟩
    · have h7 := (h48.ext e55)
      rw [h8.1] at h7
      exact h7
    · have h7 := (h50.ext e55)
      rw [h8.2] at h7
      exact h7
theorem sgI_ne {a b : Rat} (h : (Nt.sgI a b == 0) = false) : a ≠ 0 ∧ b ≠ 0 := by
  unfold Nt.sgI Nt.lo Nt.hi at h
  grind
/-- What Div answers. -/
def IDivR (x1 x2 y1 y2 : Rat) (K : Nat) (v : Value) (u : World) : Prop := (Nt.sgI y1 y2 = 0 ∧ v = .tuple #[.agg #[.bool false, .slice none 0 0, .slice none 0 0, .bool false, .slice none 0 0, .slice none 0 0], .int .i64 3]) ∨ (Nt.sgI y1 y2 ≠ 0 ∧ ∃ p q : RL, v = .tuple #[IV p q, .int .i64 0] ∧ RatN u p (Nt.lo4 (x1 / y1) (x1 / y2) (x2 / y1) (x2 / y2)) K ∧ RatN u q (Nt.hi4 (x1 / y1) (x1 / y2) (x2 / y1) (x2 / y2)) K)
set_option maxHeartbeats 2000000 in
theorem k_ivDiv {u w : World} {a1 a2 : RL} {x1 x2 : Rat} {b1 b2 : RL} {y1 y2 : Rat} {K L : Nat} (d : Dat u w) (ha1 : RatV u a1 x1 K) (ha2 : RatV u a2 x2 K) (hb1 : RatV u b1 y1 L) (hb2 : RatV u b2 y2 L) (hK : K ≤ 100000000) (hL : L ≤ 100000000) : Calls Try.prog 31 #[IV a1 a2, IV b1 b2] w (Post u w fun v u' => IDivR x1 x2 y1 y2 (K + L) v u') := by
  refine calls_sym (args := [.agg #[.bool a1.s, .slice a1.m.a a1.m.n a1.m.c, .slice a1.d.a a1.d.n a1.d.c, .bool a2.s, .slice a2.m.a a2.m.n a2.m.c, .slice a2.d.a a2.d.n a2.d.c], .agg #[.bool b1.s, .slice b1.m.a b1.m.n b1.m.c, .slice b1.d.a b1.d.n b1.d.c, .bool b2.s, .slice b2.m.a b2.m.n b2.m.c, .slice b2.d.a b2.d.n b2.d.c]]) Try.func31 rfl Try.ntmps31 (rs := [.cell 4 28, .tmp 5]) Try.results31 (le_b rfl) (le_b rfl) d ?_
  refine sw_seq ?_
  refine sw_reg ?_
  refine sy_new 2 ⟨28, a1.cs ++ a2.cs⟩ ?_
  refine sy_new 3 ⟨28, b1.cs ++ b2.cs⟩ ?_
  refine sy_new 4 ⟨28, [.bool false, .slice none 0 0, .slice none 0 0, .bool false, .slice none 0 0, .slice none 0 0]⟩ ?_
  refine sy_pure 5 (.v (.int .i64 0)) ?_
  refine sy_next 48 [(2, .adr 2 0), (3, .adr 3 0), (4, .adr 4 0)] [(2, ⟨28, a1.cs ++ a2.cs⟩), (3, ⟨28, b1.cs ++ b2.cs⟩), (4, ⟨28, [.bool false, .slice none 0 0, .slice none 0 0, .bool false, .slice none 0 0, .slice none 0 0]⟩)] ?_
  refine sw_seq ?_
  refine sw_seq ?_
  refine sw_reg ?_
  refine sy_ldv 11 (.v (.agg #[.bool b1.s, .slice b1.m.a b1.m.n b1.m.c, .slice b1.d.a b1.d.n b1.d.c, .bool b2.s, .slice b2.m.a b2.m.n b2.m.c, .slice b2.d.a b2.d.n b2.d.c])) ty28 part_agg ?_
  refine sy_call 12 48 [.agg #[.bool b1.s, .slice b1.m.a b1.m.n b1.m.c, .slice b1.d.a b1.d.n b1.d.c, .bool b2.s, .slice b2.m.a b2.m.n b2.m.c, .slice b2.d.a b2.d.n b2.d.c]] ?_
  intro w11 u11 e11 d11
  have k14 := k_ivSign d11 (hb1.ext e11) (hb2.ext e11) (by omega)
  with_reducible refine Post.mono k14 ?_
  clear k14
  rintro _ u12 g13 rfl
  refine sy_pure 13 (.v (.bool ((Nt.sgI y1 y2) == 0))) ?_
  refine sy_next 48 [(2, .adr 2 0), (3, .adr 3 0), (4, .adr 4 0), (13, .v (.bool ((Nt.sgI y1 y2) == 0)))] [(2, ⟨28, a1.cs ++ a2.cs⟩), (3, ⟨28, b1.cs ++ b2.cs⟩), (4, ⟨28, [.bool false, .slice none 0 0, .slice none 0 0, .bool false, .slice none 0 0, .slice none 0 0]⟩)] ?_
  refine sw_cond (b := (Nt.sgI y1 y2) == 0) (by kernel_rfl) (fun hb15 => ?_) (fun hb15 => ?_)
  · replace hb15 : ((Nt.sgI y1 y2) == 0) = true := hb15
    refine sw_seq ?_
    refine sw_reg ?_
    refine sy_pure 14 (.v (.agg #[.bool false, .slice none 0 0, .slice none 0 0, .bool false, .slice none 0 0, .slice none 0 0])) ?_
    refine sy_store ⟨28, [.bool false, .slice none 0 0, .slice none 0 0, .bool false, .slice none 0 0, .slice none 0 0]⟩ ty28 ?_
    refine sy_pure 5 (.v (.int .i64 3)) ?_
    refine sy_next 48 [(4, .adr 4 0), (5, .v (.int .i64 3))] [(4, ⟨28, [.bool false, .slice none 0 0, .slice none 0 0, .bool false, .slice none 0 0, .slice none 0 0]⟩)] ?_
    refine sw_ret (mpr_seq (ret0 [.agg #[.bool false, .slice none 0 0, .slice none 0 0, .bool false, .slice none 0 0, .slice none 0 0], .int .i64 3] ⟨res_cell ty28 part_agg, res_tmp, trivial⟩ fun u16 e17 => ?_))
    exact .inl ⟨by simpa using hb15, rfl⟩
  · replace hb15 : ((Nt.sgI y1 y2) == 0) = false := hb15
    refine sw_skip (mp_seq ?_)
    refine sw_seq ?_
    refine sw_reg ?_
    refine sy_new 6 ⟨69, [.bool false, .slice none 0 0, .slice none 0 0, .bool false, .slice none 0 0, .slice none 0 0, .bool false, .slice none 0 0, .slice none 0 0, .bool false, .slice none 0 0, .slice none 0 0]⟩ ?_
    refine sy_next 48 [(2, .adr 2 0), (3, .adr 3 0), (4, .adr 4 0), (6, .adr 6 0)] [(2, ⟨28, a1.cs ++ a2.cs⟩), (3, ⟨28, b1.cs ++ b2.cs⟩), (4, ⟨28, [.bool false, .slice none 0 0, .slice none 0 0, .bool false, .slice none 0 0, .slice none 0 0]⟩), (6, ⟨69, [.bool false, .slice none 0 0, .slice none 0 0, .bool false, .slice none 0 0, .slice none 0 0, .bool false, .slice none 0 0, .slice none 0 0, .bool false, .slice none 0 0, .slice none 0 0]⟩)] ?_
    refine sw_seq ?_
    refine sw_seq ?_
    refine sw_reg ?_
    refine sy_pure 15 (.adr 2 0) ?_
    refine sy_ldv 16 (.v (a1.v)) ty26 part_agg ?_
    refine sy_pure 17 (.adr 2 3) ?_
    refine sy_ldv 18 (.v (a2.v)) ty26 part_agg ?_
    refine sy_pure 19 (.v (.agg #[.bool a1.s, .slice a1.m.a a1.m.n a1.m.c, .slice a1.d.a a1.d.n a1.d.c, .bool a2.s, .slice a2.m.a a2.m.n a2.m.c, .slice a2.d.a a2.d.n a2.d.c])) ?_
    refine sy_pure 20 (.v (.int .i64 0)) ?_
    refine sy_next 48 [(3, .adr 3 0), (4, .adr 4 0), (6, .adr 6 0), (19, .v (.agg #[.bool a1.s, .slice a1.m.a a1.m.n a1.m.c, .slice a1.d.a a1.d.n a1.d.c, .bool a2.s, .slice a2.m.a a2.m.n a2.m.c, .slice a2.d.a a2.d.n a2.d.c])), (20, .v (.int .i64 0))] [(3, ⟨28, b1.cs ++ b2.cs⟩), (4, ⟨28, [.bool false, .slice none 0 0, .slice none 0 0, .bool false, .slice none 0 0, .slice none 0 0]⟩), (6, ⟨69, [.bool false, .slice none 0 0, .slice none 0 0, .bool false, .slice none 0 0, .slice none 0 0, .bool false, .slice none 0 0, .slice none 0 0, .bool false, .slice none 0 0, .slice none 0 0]⟩)] ?_
    refine sw_block ?_
    refine sw_rounds 2 ?_
    refine sw_seq ?_
    refine sw_reg ?_
    refine sy_pure 21 (.v (.bool true)) ?_
    refine sy_next 48 [(3, .adr 3 0), (4, .adr 4 0), (6, .adr 6 0), (19, .v (.agg #[.bool a1.s, .slice a1.m.a a1.m.n a1.m.c, .slice a1.d.a a1.d.n a1.d.c, .bool a2.s, .slice a2.m.a a2.m.n a2.m.c, .slice a2.d.a a2.d.n a2.d.c])), (20, .v (.int .i64 0)), (21, .v (.bool true))] [(3, ⟨28, b1.cs ++ b2.cs⟩), (4, ⟨28, [.bool false, .slice none 0 0, .slice none 0 0, .bool false, .slice none 0 0, .slice none 0 0]⟩), (6, ⟨69, [.bool false, .slice none 0 0, .slice none 0 0, .bool false, .slice none 0 0, .slice none 0 0, .bool false, .slice none 0 0, .slice none 0 0, .bool false, .slice none 0 0, .slice none 0 0]⟩)] ?_
    refine sw_seq ?_
    refine sw_true (by kernel_rfl) ?_
    refine sw_skip (mp_seq ?_)
    refine sw_seq ?_
    refine sw_block ?_
    refine sw_seq ?_
    refine sw_reg ?_
    refine sy_pure 22 (.v (.int .i64 0)) ?_
    refine sy_pure 23 (.v (a1.v)) ?_
    refine sy_new 8 ⟨26, [.bool false, .slice none 0 0, .slice none 0 0]⟩ ?_
    refine sy_pure 7 (.v (.int .i64 0)) ?_
    refine sy_store ⟨26, a1.cs⟩ ty26 ?_
    refine sy_next 48 [(3, .adr 3 0), (4, .adr 4 0), (6, .adr 6 0), (7, .v (.int .i64 0)), (8, .adr 8 0), (19, .v (.agg #[.bool a1.s, .slice a1.m.a a1.m.n a1.m.c, .slice a1.d.a a1.d.n a1.d.c, .bool a2.s, .slice a2.m.a a2.m.n a2.m.c, .slice a2.d.a a2.d.n a2.d.c])), (20, .v (.int .i64 0))] [(3, ⟨28, b1.cs ++ b2.cs⟩), (4, ⟨28, [.bool false, .slice none 0 0, .slice none 0 0, .bool false, .slice none 0 0, .slice none 0 0]⟩), (6, ⟨69, [.bool false, .slice none 0 0, .slice none 0 0, .bool false, .slice none 0 0, .slice none 0 0, .bool false, .slice none 0 0, .slice none 0 0, .bool false, .slice none 0 0, .slice none 0 0]⟩), (8, ⟨26, a1.cs⟩)] ?_
    refine sw_seq ?_
    refine sw_reg ?_
    refine sy_pure 24 (.adr 3 0) ?_
    refine sy_ldv 25 (.v (b1.v)) ty26 part_agg ?_
    refine sy_pure 26 (.adr 3 3) ?_
    refine sy_ldv 27 (.v (b2.v)) ty26 part_agg ?_
    refine sy_pure 28 (.v (.agg #[.bool b1.s, .slice b1.m.a b1.m.n b1.m.c, .slice b1.d.a b1.d.n b1.d.c, .bool b2.s, .slice b2.m.a b2.m.n b2.m.c, .slice b2.d.a b2.d.n b2.d.c])) ?_
    refine sy_pure 29 (.v (.int .i64 0)) ?_
    refine sy_next 48 [(3, .adr 3 0), (4, .adr 4 0), (6, .adr 6 0), (7, .v (.int .i64 0)), (8, .adr 8 0), (19, .v (.agg #[.bool a1.s, .slice a1.m.a a1.m.n a1.m.c, .slice a1.d.a a1.d.n a1.d.c, .bool a2.s, .slice a2.m.a a2.m.n a2.m.c, .slice a2.d.a a2.d.n a2.d.c])), (20, .v (.int .i64 0)), (28, .v (.agg #[.bool b1.s, .slice b1.m.a b1.m.n b1.m.c, .slice b1.d.a b1.d.n b1.d.c, .bool b2.s, .slice b2.m.a b2.m.n b2.m.c, .slice b2.d.a b2.d.n b2.d.c])), (29, .v (.int .i64 0))] [(3, ⟨28, b1.cs ++ b2.cs⟩), (4, ⟨28, [.bool false, .slice none 0 0, .slice none 0 0, .bool false, .slice none 0 0, .slice none 0 0]⟩), (6, ⟨69, [.bool false, .slice none 0 0, .slice none 0 0, .bool false, .slice none 0 0, .slice none 0 0, .bool false, .slice none 0 0, .slice none 0 0, .bool false, .slice none 0 0, .slice none 0 0]⟩), (8, ⟨26, a1.cs⟩)] ?_
    refine sw_block ?_
    refine sw_rounds 2 ?_
    refine sw_seq ?_
    refine sw_reg ?_
    refine sy_pure 30 (.v (.bool true)) ?_
    refine sy_next 48 [(3, .adr 3 0), (4, .adr 4 0), (6, .adr 6 0), (7, .v (.int .i64 0)), (8, .adr 8 0), (19, .v (.agg #[.bool a1.s, .slice a1.m.a a1.m.n a1.m.c, .slice a1.d.a a1.d.n a1.d.c, .bool a2.s, .slice a2.m.a a2.m.n a2.m.c, .slice a2.d.a a2.d.n a2.d.c])), (20, .v (.int .i64 0)), (28, .v (.agg #[.bool b1.s, .slice b1.m.a b1.m.n b1.m.c, .slice b1.d.a b1.d.n b1.d.c, .bool b2.s, .slice b2.m.a b2.m.n b2.m.c, .slice b2.d.a b2.d.n b2.d.c])), (29, .v (.int .i64 0)), (30, .v (.bool true))] [(3, ⟨28, b1.cs ++ b2.cs⟩), (4, ⟨28, [.bool false, .slice none 0 0, .slice none 0 0, .bool false, .slice none 0 0, .slice none 0 0]⟩), (6, ⟨69, [.bool false, .slice none 0 0, .slice none 0 0, .bool false, .slice none 0 0, .slice none 0 0, .bool false, .slice none 0 0, .slice none 0 0, .bool false, .slice none 0 0, .slice none 0 0]⟩), (8, ⟨26, a1.cs⟩)] ?_
    refine sw_seq ?_
    refine sw_true (by kernel_rfl) ?_
    refine sw_skip (mp_seq ?_)
    refine sw_seq ?_
    refine sw_block ?_
    refine sw_seq ?_
    refine sw_reg ?_
    refine sy_pure 31 (.v (.int .i64 0)) ?_
    refine sy_pure 32 (.v (b1.v)) ?_
    refine sy_new 10 ⟨26, [.bool false, .slice none 0 0, .slice none 0 0]⟩ ?_
    refine sy_pure 9 (.v (.int .i64 0)) ?_
    refine sy_store ⟨26, b1.cs⟩ ty26 ?_
    refine sy_next 48 [(3, .adr 3 0), (4, .adr 4 0), (6, .adr 6 0), (7, .v (.int .i64 0)), (8, .adr 8 0), (9, .v (.int .i64 0)), (10, .adr 10 0), (19, .v (.agg #[.bool a1.s, .slice a1.m.a a1.m.n a1.m.c, .slice a1.d.a a1.d.n a1.d.c, .bool a2.s, .slice a2.m.a a2.m.n a2.m.c, .slice a2.d.a a2.d.n a2.d.c])), (20, .v (.int .i64 0)), (28, .v (.agg #[.bool b1.s, .slice b1.m.a b1.m.n b1.m.c, .slice b1.d.a b1.d.n b1.d.c, .bool b2.s, .slice b2.m.a b2.m.n b2.m.c, .slice b2.d.a b2.d.n b2.d.c])), (29, .v (.int .i64 0))] [(3, ⟨28, b1.cs ++ b2.cs⟩), (4, ⟨28, [.bool false, .slice none 0 0, .slice none 0 0, .bool false, .slice none 0 0, .slice none 0 0]⟩), (6, ⟨69, [.bool false, .slice none 0 0, .slice none 0 0, .bool false, .slice none 0 0, .slice none 0 0, .bool false, .slice none 0 0, .slice none 0 0, .bool false, .slice none 0 0, .slice none 0 0]⟩), (8, ⟨26, a1.cs⟩), (10, ⟨26, b1.cs⟩)] ?_
    refine sw_reg ?_
    refine sy_pure 34 (.v (.int .i64 0)) ?_
    refine sy_pure 35 (.v (.int .i64 0)) ?_
    refine sy_pure 36 (.v (.int .i64 0)) ?_
    refine sy_pure 37 (.v (.int .i64 0)) ?_
    refine sy_ldv 38 (.v (a1.v)) ty26 part_agg ?_
    refine sy_ldv 39 (.v (b1.v)) ty26 part_agg ?_
    refine sy_call 40 54 [a1.v, b1.v] ?_
    intro w18 u18 e18 d18
    have k23 := k_ratDiv1 d18 (ha1.ext (e11.trans (g13.ext.trans e18))) (hb1.ext (e11.trans (g13.ext.trans e18))) (sgI_ne hb15).1 (by omega) (by omega)
    with_reducible refine Post.mono k23 ?_
    clear k23
    rintro _ u21 g22 ⟨r19, rfl, h20⟩
    refine sy_pure 33 (.v (.tuple #[r19.v, .int .i64 0])) ?_
    refine sy_pure 41 (.v (r19.v)) ?_
    refine sy_pure 42 (.v (.int .i64 0)) ?_
    refine sy_pure 43 (.adr 6 0) ?_
    refine sy_store ⟨69, r19.cs ++ [.bool false, .slice none 0 0, .slice none 0 0, .bool false, .slice none 0 0, .slice none 0 0, .bool false, .slice none 0 0, .slice none 0 0]⟩ ty26 ?_
    refine sy_end ?_
    refine mp_seq ?_
    refine sw_reg ?_
    refine sy_pure 44 (.v (.int .i64 1)) ?_
    refine sy_pure 29 (.v (.int .i64 1)) ?_
    refine sy_end ?_
    refine rn_next ?_
    refine sw_weak (T := St.of 48 [(3, .adr 3 0), (4, .adr 4 0), (6, .adr 6 0), (7, .v (.int .i64 0)), (8, .adr 8 0), (19, .v (.agg #[.bool a1.s, .slice a1.m.a a1.m.n a1.m.c, .slice a1.d.a a1.d.n a1.d.c, .bool a2.s, .slice a2.m.a a2.m.n a2.m.c, .slice a2.d.a a2.d.n a2.d.c])), (20, .v (.int .i64 0)), (28, .v (.agg #[.bool b1.s, .slice b1.m.a b1.m.n b1.m.c, .slice b1.d.a b1.d.n b1.d.c, .bool b2.s, .slice b2.m.a b2.m.n b2.m.c, .slice b2.d.a b2.d.n b2.d.c])), (29, .v (.int .i64 1))] [(3, ⟨28, b1.cs ++ b2.cs⟩), (4, ⟨28, [.bool false, .slice none 0 0, .slice none 0 0, .bool false, .slice none 0 0, .slice none 0 0]⟩), (6, ⟨69, r19.cs ++ [.bool false, .slice none 0 0, .slice none 0 0, .bool false, .slice none 0 0, .slice none 0 0, .bool false, .slice none 0 0, .slice none 0 0]⟩), (8, ⟨26, a1.cs⟩)]) (by exact weak_mk _ _ _) ?_
    refine sw_seq ?_
    refine sw_reg ?_
    refine sy_pure 30 (.v (.bool true)) ?_
    refine sy_next 48 [(3, .adr 3 0), (4, .adr 4 0), (6, .adr 6 0), (7, .v (.int .i64 0)), (8, .adr 8 0), (19, .v (.agg #[.bool a1.s, .slice a1.m.a a1.m.n a1.m.c, .slice a1.d.a a1.d.n a1.d.c, .bool a2.s, .slice a2.m.a a2.m.n a2.m.c, .slice a2.d.a a2.d.n a2.d.c])), (20, .v (.int .i64 0)), (28, .v (.agg #[.bool b1.s, .slice b1.m.a b1.m.n b1.m.c, .slice b1.d.a b1.d.n b1.d.c, .bool b2.s, .slice b2.m.a b2.m.n b2.m.c, .slice b2.d.a b2.d.n b2.d.c])), (29, .v (.int .i64 1)), (30, .v (.bool true))] [(3, ⟨28, b1.cs ++ b2.cs⟩), (4, ⟨28, [.bool false, .slice none 0 0, .slice none 0 0, .bool false, .slice none 0 0, .slice none 0 0]⟩), (6, ⟨69, r19.cs ++ [.bool false, .slice none 0 0, .slice none 0 0, .bool false, .slice none 0 0, .slice none 0 0, .bool false, .slice none 0 0, .slice none 0 0]⟩), (8, ⟨26, a1.cs⟩)] ?_
    refine sw_seq ?_
    refine sw_true (by kernel_rfl) ?_
    refine sw_skip (mp_seq ?_)
    refine sw_seq ?_
    refine sw_block ?_
    refine sw_seq ?_
    refine sw_reg ?_
    refine sy_pure 31 (.v (.int .i64 1)) ?_
    refine sy_pure 32 (.v (b2.v)) ?_
    refine sy_new 10 ⟨26, [.bool false, .slice none 0 0, .slice none 0 0]⟩ ?_
    refine sy_pure 9 (.v (.int .i64 1)) ?_
    refine sy_store ⟨26, b2.cs⟩ ty26 ?_
    refine sy_next 48 [(3, .adr 3 0), (4, .adr 4 0), (6, .adr 6 0), (7, .v (.int .i64 0)), (8, .adr 8 0), (9, .v (.int .i64 1)), (10, .adr 10 0), (19, .v (.agg #[.bool a1.s, .slice a1.m.a a1.m.n a1.m.c, .slice a1.d.a a1.d.n a1.d.c, .bool a2.s, .slice a2.m.a a2.m.n a2.m.c, .slice a2.d.a a2.d.n a2.d.c])), (20, .v (.int .i64 0)), (28, .v (.agg #[.bool b1.s, .slice b1.m.a b1.m.n b1.m.c, .slice b1.d.a b1.d.n b1.d.c, .bool b2.s, .slice b2.m.a b2.m.n b2.m.c, .slice b2.d.a b2.d.n b2.d.c])), (29, .v (.int .i64 1))] [(3, ⟨28, b1.cs ++ b2.cs⟩), (4, ⟨28, [.bool false, .slice none 0 0, .slice none 0 0, .bool false, .slice none 0 0, .slice none 0 0]⟩), (6, ⟨69, r19.cs ++ [.bool false, .slice none 0 0, .slice none 0 0, .bool false, .slice none 0 0, .slice none 0 0, .bool false, .slice none 0 0, .slice none 0 0]⟩), (8, ⟨26, a1.cs⟩), (10, ⟨26, b2.cs⟩)] ?_
    refine sw_reg ?_
    refine sy_pure 34 (.v (.int .i64 0)) ?_
    refine sy_pure 35 (.v (.int .i64 0)) ?_
    refine sy_pure 36 (.v (.int .i64 1)) ?_
    refine sy_pure 37 (.v (.int .i64 1)) ?_
    refine sy_ldv 38 (.v (a1.v)) ty26 part_agg ?_
    refine sy_ldv 39 (.v (b2.v)) ty26 part_agg ?_
    refine sy_call 40 54 [a1.v, b2.v] ?_
    intro w24 u24 e24 d24
    have k29 := k_ratDiv1 d24 (ha1.ext (e11.trans (g13.ext.trans (e18.trans (g22.ext.trans e24))))) (hb2.ext (e11.trans (g13.ext.trans (e18.trans (g22.ext.trans e24))))) (sgI_ne hb15).2 (by omega) (by omega)
    with_reducible refine Post.mono k29 ?_
    clear k29
    rintro _ u27 g28 ⟨r25, rfl, h26⟩
    refine sy_pure 33 (.v (.tuple #[r25.v, .int .i64 0])) ?_
    refine sy_pure 41 (.v (r25.v)) ?_
    refine sy_pure 42 (.v (.int .i64 0)) ?_
    refine sy_pure 43 (.adr 6 3) ?_
    refine sy_store ⟨69, r19.cs ++ r25.cs ++ [.bool false, .slice none 0 0, .slice none 0 0, .bool false, .slice none 0 0, .slice none 0 0]⟩ ty26 ?_
    refine sy_end ?_
    refine mp_seq ?_
    refine sw_reg ?_
    refine sy_pure 44 (.v (.int .i64 2)) ?_
    refine sy_pure 29 (.v (.int .i64 2)) ?_
    refine sy_end ?_
    refine rn_next ?_
    refine sw_weak (T := St.of 48 [(3, .adr 3 0), (4, .adr 4 0), (6, .adr 6 0), (7, .v (.int .i64 0)), (8, .adr 8 0), (19, .v (.agg #[.bool a1.s, .slice a1.m.a a1.m.n a1.m.c, .slice a1.d.a a1.d.n a1.d.c, .bool a2.s, .slice a2.m.a a2.m.n a2.m.c, .slice a2.d.a a2.d.n a2.d.c])), (20, .v (.int .i64 0)), (28, .v (.agg #[.bool b1.s, .slice b1.m.a b1.m.n b1.m.c, .slice b1.d.a b1.d.n b1.d.c, .bool b2.s, .slice b2.m.a b2.m.n b2.m.c, .slice b2.d.a b2.d.n b2.d.c])), (29, .v (.int .i64 2))] [(3, ⟨28, b1.cs ++ b2.cs⟩), (4, ⟨28, [.bool false, .slice none 0 0, .slice none 0 0, .bool false, .slice none 0 0, .slice none 0 0]⟩), (6, ⟨69, r19.cs ++ r25.cs ++ [.bool false, .slice none 0 0, .slice none 0 0, .bool false, .slice none 0 0, .slice none 0 0]⟩), (8, ⟨26, a1.cs⟩)]) (by exact weak_mk _ _ _) ?_
    refine sw_seq ?_
    refine sw_reg ?_
    refine sy_pure 30 (.v (.bool false)) ?_
    refine sy_next 48 [(3, .adr 3 0), (4, .adr 4 0), (6, .adr 6 0), (7, .v (.int .i64 0)), (8, .adr 8 0), (19, .v (.agg #[.bool a1.s, .slice a1.m.a a1.m.n a1.m.c, .slice a1.d.a a1.d.n a1.d.c, .bool a2.s, .slice a2.m.a a2.m.n a2.m.c, .slice a2.d.a a2.d.n a2.d.c])), (20, .v (.int .i64 0)), (28, .v (.agg #[.bool b1.s, .slice b1.m.a b1.m.n b1.m.c, .slice b1.d.a b1.d.n b1.d.c, .bool b2.s, .slice b2.m.a b2.m.n b2.m.c, .slice b2.d.a b2.d.n b2.d.c])), (29, .v (.int .i64 2)), (30, .v (.bool false))] [(3, ⟨28, b1.cs ++ b2.cs⟩), (4, ⟨28, [.bool false, .slice none 0 0, .slice none 0 0, .bool false, .slice none 0 0, .slice none 0 0]⟩), (6, ⟨69, r19.cs ++ r25.cs ++ [.bool false, .slice none 0 0, .slice none 0 0, .bool false, .slice none 0 0, .slice none 0 0]⟩), (8, ⟨26, a1.cs⟩)] ?_
    refine sw_seq ?_
    refine sw_false (by kernel_rfl) ?_
    refine sw_exit ?_
    refine mp_seq ?_
    refine sw_reg ?_
    refine sy_pure 45 (.v (.int .i64 1)) ?_
    refine sy_pure 20 (.v (.int .i64 1)) ?_
    refine sy_end ?_
    refine rn_next ?_
    refine sw_weak (T := St.of 48 [(3, .adr 3 0), (4, .adr 4 0), (6, .adr 6 0), (19, .v (.agg #[.bool a1.s, .slice a1.m.a a1.m.n a1.m.c, .slice a1.d.a a1.d.n a1.d.c, .bool a2.s, .slice a2.m.a a2.m.n a2.m.c, .slice a2.d.a a2.d.n a2.d.c])), (20, .v (.int .i64 1))] [(3, ⟨28, b1.cs ++ b2.cs⟩), (4, ⟨28, [.bool false, .slice none 0 0, .slice none 0 0, .bool false, .slice none 0 0, .slice none 0 0]⟩), (6, ⟨69, r19.cs ++ r25.cs ++ [.bool false, .slice none 0 0, .slice none 0 0, .bool false, .slice none 0 0, .slice none 0 0]⟩)]) (by exact weak_mk _ _ _) ?_
    refine sw_seq ?_
    refine sw_reg ?_
    refine sy_pure 21 (.v (.bool true)) ?_
    refine sy_next 48 [(3, .adr 3 0), (4, .adr 4 0), (6, .adr 6 0), (19, .v (.agg #[.bool a1.s, .slice a1.m.a a1.m.n a1.m.c, .slice a1.d.a a1.d.n a1.d.c, .bool a2.s, .slice a2.m.a a2.m.n a2.m.c, .slice a2.d.a a2.d.n a2.d.c])), (20, .v (.int .i64 1)), (21, .v (.bool true))] [(3, ⟨28, b1.cs ++ b2.cs⟩), (4, ⟨28, [.bool false, .slice none 0 0, .slice none 0 0, .bool false, .slice none 0 0, .slice none 0 0]⟩), (6, ⟨69, r19.cs ++ r25.cs ++ [.bool false, .slice none 0 0, .slice none 0 0, .bool false, .slice none 0 0, .slice none 0 0]⟩)] ?_
    refine sw_seq ?_
    refine sw_true (by kernel_rfl) ?_
    refine sw_skip (mp_seq ?_)
    refine sw_seq ?_
    refine sw_block ?_
    refine sw_seq ?_
    refine sw_reg ?_
    refine sy_pure 22 (.v (.int .i64 1)) ?_
    refine sy_pure 23 (.v (a2.v)) ?_
    refine sy_new 8 ⟨26, [.bool false, .slice none 0 0, .slice none 0 0]⟩ ?_
    refine sy_pure 7 (.v (.int .i64 1)) ?_
    refine sy_store ⟨26, a2.cs⟩ ty26 ?_
    refine sy_next 48 [(3, .adr 3 0), (4, .adr 4 0), (6, .adr 6 0), (7, .v (.int .i64 1)), (8, .adr 8 0), (19, .v (.agg #[.bool a1.s, .slice a1.m.a a1.m.n a1.m.c, .slice a1.d.a a1.d.n a1.d.c, .bool a2.s, .slice a2.m.a a2.m.n a2.m.c, .slice a2.d.a a2.d.n a2.d.c])), (20, .v (.int .i64 1))] [(3, ⟨28, b1.cs ++ b2.cs⟩), (4, ⟨28, [.bool false, .slice none 0 0, .slice none 0 0, .bool false, .slice none 0 0, .slice none 0 0]⟩), (6, ⟨69, r19.cs ++ r25.cs ++ [.bool false, .slice none 0 0, .slice none 0 0, .bool false, .slice none 0 0, .slice none 0 0]⟩), (8, ⟨26, a2.cs⟩)] ?_
    refine sw_seq ?_
    refine sw_reg ?_
    refine sy_pure 24 (.adr 3 0) ?_
    refine sy_ldv 25 (.v (b1.v)) ty26 part_agg ?_
    refine sy_pure 26 (.adr 3 3) ?_
    refine sy_ldv 27 (.v (b2.v)) ty26 part_agg ?_
    refine sy_pure 28 (.v (.agg #[.bool b1.s, .slice b1.m.a b1.m.n b1.m.c, .slice b1.d.a b1.d.n b1.d.c, .bool b2.s, .slice b2.m.a b2.m.n b2.m.c, .slice b2.d.a b2.d.n b2.d.c])) ?_
    refine sy_pure 29 (.v (.int .i64 0)) ?_
    refine sy_next 48 [(3, .adr 3 0), (4, .adr 4 0), (6, .adr 6 0), (7, .v (.int .i64 1)), (8, .adr 8 0), (19, .v (.agg #[.bool a1.s, .slice a1.m.a a1.m.n a1.m.c, .slice a1.d.a a1.d.n a1.d.c, .bool a2.s, .slice a2.m.a a2.m.n a2.m.c, .slice a2.d.a a2.d.n a2.d.c])), (20, .v (.int .i64 1)), (28, .v (.agg #[.bool b1.s, .slice b1.m.a b1.m.n b1.m.c, .slice b1.d.a b1.d.n b1.d.c, .bool b2.s, .slice b2.m.a b2.m.n b2.m.c, .slice b2.d.a b2.d.n b2.d.c])), (29, .v (.int .i64 0))] [(3, ⟨28, b1.cs ++ b2.cs⟩), (4, ⟨28, [.bool false, .slice none 0 0, .slice none 0 0, .bool false, .slice none 0 0, .slice none 0 0]⟩), (6, ⟨69, r19.cs ++ r25.cs ++ [.bool false, .slice none 0 0, .slice none 0 0, .bool false, .slice none 0 0, .slice none 0 0]⟩), (8, ⟨26, a2.cs⟩)] ?_
    refine sw_block ?_
    refine sw_rounds 2 ?_
    refine sw_seq ?_
    refine sw_reg ?_
    refine sy_pure 30 (.v (.bool true)) ?_
    refine sy_next 48 [(3, .adr 3 0), (4, .adr 4 0), (6, .adr 6 0), (7, .v (.int .i64 1)), (8, .adr 8 0), (19, .v (.agg #[.bool a1.s, .slice a1.m.a a1.m.n a1.m.c, .slice a1.d.a a1.d.n a1.d.c, .bool a2.s, .slice a2.m.a a2.m.n a2.m.c, .slice a2.d.a a2.d.n a2.d.c])), (20, .v (.int .i64 1)), (28, .v (.agg #[.bool b1.s, .slice b1.m.a b1.m.n b1.m.c, .slice b1.d.a b1.d.n b1.d.c, .bool b2.s, .slice b2.m.a b2.m.n b2.m.c, .slice b2.d.a b2.d.n b2.d.c])), (29, .v (.int .i64 0)), (30, .v (.bool true))] [(3, ⟨28, b1.cs ++ b2.cs⟩), (4, ⟨28, [.bool false, .slice none 0 0, .slice none 0 0, .bool false, .slice none 0 0, .slice none 0 0]⟩), (6, ⟨69, r19.cs ++ r25.cs ++ [.bool false, .slice none 0 0, .slice none 0 0, .bool false, .slice none 0 0, .slice none 0 0]⟩), (8, ⟨26, a2.cs⟩)] ?_
    refine sw_seq ?_
    refine sw_true (by kernel_rfl) ?_
    refine sw_skip (mp_seq ?_)
    refine sw_seq ?_
    refine sw_block ?_
    refine sw_seq ?_
    refine sw_reg ?_
    refine sy_pure 31 (.v (.int .i64 0)) ?_
    refine sy_pure 32 (.v (b1.v)) ?_
    refine sy_new 10 ⟨26, [.bool false, .slice none 0 0, .slice none 0 0]⟩ ?_
    refine sy_pure 9 (.v (.int .i64 0)) ?_
    refine sy_store ⟨26, b1.cs⟩ ty26 ?_
    refine sy_next 48 [(3, .adr 3 0), (4, .adr 4 0), (6, .adr 6 0), (7, .v (.int .i64 1)), (8, .adr 8 0), (9, .v (.int .i64 0)), (10, .adr 10 0), (19, .v (.agg #[.bool a1.s, .slice a1.m.a a1.m.n a1.m.c, .slice a1.d.a a1.d.n a1.d.c, .bool a2.s, .slice a2.m.a a2.m.n a2.m.c, .slice a2.d.a a2.d.n a2.d.c])), (20, .v (.int .i64 1)), (28, .v (.agg #[.bool b1.s, .slice b1.m.a b1.m.n b1.m.c, .slice b1.d.a b1.d.n b1.d.c, .bool b2.s, .slice b2.m.a b2.m.n b2.m.c, .slice b2.d.a b2.d.n b2.d.c])), (29, .v (.int .i64 0))] [(3, ⟨28, b1.cs ++ b2.cs⟩), (4, ⟨28, [.bool false, .slice none 0 0, .slice none 0 0, .bool false, .slice none 0 0, .slice none 0 0]⟩), (6, ⟨69, r19.cs ++ r25.cs ++ [.bool false, .slice none 0 0, .slice none 0 0, .bool false, .slice none 0 0, .slice none 0 0]⟩), (8, ⟨26, a2.cs⟩), (10, ⟨26, b1.cs⟩)] ?_
    refine sw_reg ?_
    refine sy_pure 34 (.v (.int .i64 1)) ?_
    refine sy_pure 35 (.v (.int .i64 2)) ?_
    refine sy_pure 36 (.v (.int .i64 0)) ?_
    refine sy_pure 37 (.v (.int .i64 2)) ?_
    refine sy_ldv 38 (.v (a2.v)) ty26 part_agg ?_
    refine sy_ldv 39 (.v (b1.v)) ty26 part_agg ?_
    refine sy_call 40 54 [a2.v, b1.v] ?_
    intro w30 u30 e30 d30
    have k35 := k_ratDiv1 d30 (ha2.ext (e11.trans (g13.ext.trans (e18.trans (g22.ext.trans (e24.trans (g28.ext.trans e30))))))) (hb1.ext (e11.trans (g13.ext.trans (e18.trans (g22.ext.trans (e24.trans (g28.ext.trans e30))))))) (sgI_ne hb15).1 (by omega) (by omega)
    with_reducible refine Post.mono k35 ?_
    clear k35
    rintro _ u33 g34 ⟨r31, rfl, h32⟩
    refine sy_pure 33 (.v (.tuple #[r31.v, .int .i64 0])) ?_
    refine sy_pure 41 (.v (r31.v)) ?_
    refine sy_pure 42 (.v (.int .i64 0)) ?_
    refine sy_pure 43 (.adr 6 6) ?_
    refine sy_store ⟨69, r19.cs ++ r25.cs ++ r31.cs ++ [.bool false, .slice none 0 0, .slice none 0 0]⟩ ty26 ?_
    refine sy_end ?_
    refine mp_seq ?_
    refine sw_reg ?_
    refine sy_pure 44 (.v (.int .i64 1)) ?_
    refine sy_pure 29 (.v (.int .i64 1)) ?_
    refine sy_end ?_
    refine rn_next ?_
    refine sw_weak (T := St.of 48 [(3, .adr 3 0), (4, .adr 4 0), (6, .adr 6 0), (7, .v (.int .i64 1)), (8, .adr 8 0), (19, .v (.agg #[.bool a1.s, .slice a1.m.a a1.m.n a1.m.c, .slice a1.d.a a1.d.n a1.d.c, .bool a2.s, .slice a2.m.a a2.m.n a2.m.c, .slice a2.d.a a2.d.n a2.d.c])), (20, .v (.int .i64 1)), (28, .v (.agg #[.bool b1.s, .slice b1.m.a b1.m.n b1.m.c, .slice b1.d.a b1.d.n b1.d.c, .bool b2.s, .slice b2.m.a b2.m.n b2.m.c, .slice b2.d.a b2.d.n b2.d.c])), (29, .v (.int .i64 1))] [(3, ⟨28, b1.cs ++ b2.cs⟩), (4, ⟨28, [.bool false, .slice none 0 0, .slice none 0 0, .bool false, .slice none 0 0, .slice none 0 0]⟩), (6, ⟨69, r19.cs ++ r25.cs ++ r31.cs ++ [.bool false, .slice none 0 0, .slice none 0 0]⟩), (8, ⟨26, a2.cs⟩)]) (by exact weak_mk _ _ _) ?_
    refine sw_seq ?_
    refine sw_reg ?_
    refine sy_pure 30 (.v (.bool true)) ?_
    refine sy_next 48 [(3, .adr 3 0), (4, .adr 4 0), (6, .adr 6 0), (7, .v (.int .i64 1)), (8, .adr 8 0), (19, .v (.agg #[.bool a1.s, .slice a1.m.a a1.m.n a1.m.c, .slice a1.d.a a1.d.n a1.d.c, .bool a2.s, .slice a2.m.a a2.m.n a2.m.c, .slice a2.d.a a2.d.n a2.d.c])), (20, .v (.int .i64 1)), (28, .v (.agg #[.bool b1.s, .slice b1.m.a b1.m.n b1.m.c, .slice b1.d.a b1.d.n b1.d.c, .bool b2.s, .slice b2.m.a b2.m.n b2.m.c, .slice b2.d.a b2.d.n b2.d.c])), (29, .v (.int .i64 1)), (30, .v (.bool true))] [(3, ⟨28, b1.cs ++ b2.cs⟩), (4, ⟨28, [.bool false, .slice none 0 0, .slice none 0 0, .bool false, .slice none 0 0, .slice none 0 0]⟩), (6, ⟨69, r19.cs ++ r25.cs ++ r31.cs ++ [.bool false, .slice none 0 0, .slice none 0 0]⟩), (8, ⟨26, a2.cs⟩)] ?_
    refine sw_seq ?_
    refine sw_true (by kernel_rfl) ?_
    refine sw_skip (mp_seq ?_)
    refine sw_seq ?_
    refine sw_block ?_
    refine sw_seq ?_
    refine sw_reg ?_
    refine sy_pure 31 (.v (.int .i64 1)) ?_
    refine sy_pure 32 (.v (b2.v)) ?_
    refine sy_new 10 ⟨26, [.bool false, .slice none 0 0, .slice none 0 0]⟩ ?_
    refine sy_pure 9 (.v (.int .i64 1)) ?_
    refine sy_store ⟨26, b2.cs⟩ ty26 ?_
    refine sy_next 48 [(3, .adr 3 0), (4, .adr 4 0), (6, .adr 6 0), (7, .v (.int .i64 1)), (8, .adr 8 0), (9, .v (.int .i64 1)), (10, .adr 10 0), (19, .v (.agg #[.bool a1.s, .slice a1.m.a a1.m.n a1.m.c, .slice a1.d.a a1.d.n a1.d.c, .bool a2.s, .slice a2.m.a a2.m.n a2.m.c, .slice a2.d.a a2.d.n a2.d.c])), (20, .v (.int .i64 1)), (28, .v (.agg #[.bool b1.s, .slice b1.m.a b1.m.n b1.m.c, .slice b1.d.a b1.d.n b1.d.c, .bool b2.s, .slice b2.m.a b2.m.n b2.m.c, .slice b2.d.a b2.d.n b2.d.c])), (29, .v (.int .i64 1))] [(3, ⟨28, b1.cs ++ b2.cs⟩), (4, ⟨28, [.bool false, .slice none 0 0, .slice none 0 0, .bool false, .slice none 0 0, .slice none 0 0]⟩), (6, ⟨69, r19.cs ++ r25.cs ++ r31.cs ++ [.bool false, .slice none 0 0, .slice none 0 0]⟩), (8, ⟨26, a2.cs⟩), (10, ⟨26, b2.cs⟩)] ?_
    refine sw_reg ?_
    refine sy_pure 34 (.v (.int .i64 1)) ?_
    refine sy_pure 35 (.v (.int .i64 2)) ?_
    refine sy_pure 36 (.v (.int .i64 1)) ?_
    refine sy_pure 37 (.v (.int .i64 3)) ?_
    refine sy_ldv 38 (.v (a2.v)) ty26 part_agg ?_
    refine sy_ldv 39 (.v (b2.v)) ty26 part_agg ?_
    refine sy_call 40 54 [a2.v, b2.v] ?_
    intro w36 u36 e36 d36
    have k41 := k_ratDiv1 d36 (ha2.ext (e11.trans (g13.ext.trans (e18.trans (g22.ext.trans (e24.trans (g28.ext.trans (e30.trans (g34.ext.trans e36))))))))) (hb2.ext (e11.trans (g13.ext.trans (e18.trans (g22.ext.trans (e24.trans (g28.ext.trans (e30.trans (g34.ext.trans e36))))))))) (sgI_ne hb15).2 (by omega) (by omega)
    with_reducible refine Post.mono k41 ?_
    clear k41
    rintro _ u39 g40 ⟨r37, rfl, h38⟩
    refine sy_pure 33 (.v (.tuple #[r37.v, .int .i64 0])) ?_
    refine sy_pure 41 (.v (r37.v)) ?_
    refine sy_pure 42 (.v (.int .i64 0)) ?_
    refine sy_pure 43 (.adr 6 9) ?_
    refine sy_store ⟨69, r19.cs ++ r25.cs ++ r31.cs ++ r37.cs⟩ ty26 ?_
    refine sy_end ?_
    refine mp_seq ?_
    refine sw_reg ?_
    refine sy_pure 44 (.v (.int .i64 2)) ?_
    refine sy_pure 29 (.v (.int .i64 2)) ?_
    refine sy_end ?_
    refine rn_next ?_
    refine sw_weak (T := St.of 48 [(3, .adr 3 0), (4, .adr 4 0), (6, .adr 6 0), (7, .v (.int .i64 1)), (8, .adr 8 0), (19, .v (.agg #[.bool a1.s, .slice a1.m.a a1.m.n a1.m.c, .slice a1.d.a a1.d.n a1.d.c, .bool a2.s, .slice a2.m.a a2.m.n a2.m.c, .slice a2.d.a a2.d.n a2.d.c])), (20, .v (.int .i64 1)), (28, .v (.agg #[.bool b1.s, .slice b1.m.a b1.m.n b1.m.c, .slice b1.d.a b1.d.n b1.d.c, .bool b2.s, .slice b2.m.a b2.m.n b2.m.c, .slice b2.d.a b2.d.n b2.d.c])), (29, .v (.int .i64 2))] [(3, ⟨28, b1.cs ++ b2.cs⟩), (4, ⟨28, [.bool false, .slice none 0 0, .slice none 0 0, .bool false, .slice none 0 0, .slice none 0 0]⟩), (6, ⟨69, r19.cs ++ r25.cs ++ r31.cs ++ r37.cs⟩), (8, ⟨26, a2.cs⟩)]) (by exact weak_mk _ _ _) ?_
    refine sw_seq ?_
    refine sw_reg ?_
    refine sy_pure 30 (.v (.bool false)) ?_
    refine sy_next 48 [(3, .adr 3 0), (4, .adr 4 0), (6, .adr 6 0), (7, .v (.int .i64 1)), (8, .adr 8 0), (19, .v (.agg #[.bool a1.s, .slice a1.m.a a1.m.n a1.m.c, .slice a1.d.a a1.d.n a1.d.c, .bool a2.s, .slice a2.m.a a2.m.n a2.m.c, .slice a2.d.a a2.d.n a2.d.c])), (20, .v (.int .i64 1)), (28, .v (.agg #[.bool b1.s, .slice b1.m.a b1.m.n b1.m.c, .slice b1.d.a b1.d.n b1.d.c, .bool b2.s, .slice b2.m.a b2.m.n b2.m.c, .slice b2.d.a b2.d.n b2.d.c])), (29, .v (.int .i64 2)), (30, .v (.bool false))] [(3, ⟨28, b1.cs ++ b2.cs⟩), (4, ⟨28, [.bool false, .slice none 0 0, .slice none 0 0, .bool false, .slice none 0 0, .slice none 0 0]⟩), (6, ⟨69, r19.cs ++ r25.cs ++ r31.cs ++ r37.cs⟩), (8, ⟨26, a2.cs⟩)] ?_
    refine sw_seq ?_
    refine sw_false (by kernel_rfl) ?_
    refine sw_exit ?_
    refine mp_seq ?_
    refine sw_reg ?_
    refine sy_pure 45 (.v (.int .i64 2)) ?_
    refine sy_pure 20 (.v (.int .i64 2)) ?_
    refine sy_end ?_
    refine rn_next ?_
    refine sw_weak (T := St.of 48 [(3, .adr 3 0), (4, .adr 4 0), (6, .adr 6 0), (19, .v (.agg #[.bool a1.s, .slice a1.m.a a1.m.n a1.m.c, .slice a1.d.a a1.d.n a1.d.c, .bool a2.s, .slice a2.m.a a2.m.n a2.m.c, .slice a2.d.a a2.d.n a2.d.c])), (20, .v (.int .i64 2))] [(3, ⟨28, b1.cs ++ b2.cs⟩), (4, ⟨28, [.bool false, .slice none 0 0, .slice none 0 0, .bool false, .slice none 0 0, .slice none 0 0]⟩), (6, ⟨69, r19.cs ++ r25.cs ++ r31.cs ++ r37.cs⟩)]) (by exact weak_mk _ _ _) ?_
    refine sw_seq ?_
    refine sw_reg ?_
    refine sy_pure 21 (.v (.bool false)) ?_
    refine sy_next 48 [(3, .adr 3 0), (4, .adr 4 0), (6, .adr 6 0), (19, .v (.agg #[.bool a1.s, .slice a1.m.a a1.m.n a1.m.c, .slice a1.d.a a1.d.n a1.d.c, .bool a2.s, .slice a2.m.a a2.m.n a2.m.c, .slice a2.d.a a2.d.n a2.d.c])), (20, .v (.int .i64 2)), (21, .v (.bool false))] [(3, ⟨28, b1.cs ++ b2.cs⟩), (4, ⟨28, [.bool false, .slice none 0 0, .slice none 0 0, .bool false, .slice none 0 0, .slice none 0 0]⟩), (6, ⟨69, r19.cs ++ r25.cs ++ r31.cs ++ r37.cs⟩)] ?_
    refine sw_seq ?_
    refine sw_false (by kernel_rfl) ?_
    refine sw_exit ?_
    refine mp_seq ?_
    refine sw_seq ?_
    refine sw_reg ?_
    refine sy_ldv 46 (.v (.agg #[.bool r19.s, .slice r19.m.a r19.m.n r19.m.c, .slice r19.d.a r19.d.n r19.d.c, .bool r25.s, .slice r25.m.a r25.m.n r25.m.c, .slice r25.d.a r25.d.n r25.d.c, .bool r31.s, .slice r31.m.a r31.m.n r31.m.c, .slice r31.d.a r31.d.n r31.d.c, .bool r37.s, .slice r37.m.a r37.m.n r37.m.c, .slice r37.d.a r37.d.n r37.d.c])) ty69 part_agg ?_
    refine sy_call 47 46 [.agg #[.bool r19.s, .slice r19.m.a r19.m.n r19.m.c, .slice r19.d.a r19.d.n r19.d.c, .bool r25.s, .slice r25.m.a r25.m.n r25.m.c, .slice r25.d.a r25.d.n r25.d.c, .bool r31.s, .slice r31.m.a r31.m.n r31.m.c, .slice r31.d.a r31.d.n r31.d.c, .bool r37.s, .slice r37.m.a r37.m.n r37.m.c, .slice r37.d.a r37.d.n r37.d.c]] ?_
    intro w42 u42 e42 d42
    have k49 := k_around d42 (h20.ext (e24.trans (g28.ext.trans (e30.trans (g34.ext.trans (e36.trans (g40.ext.trans e42))))))) (h26.ext (e30.trans (g34.ext.trans (e36.trans (g40.ext.trans e42))))) (h32.ext (e36.trans (g40.ext.trans e42))) (h38.ext e42) (by omega)
    with_reducible refine Post.mono k49 ?_
    clear k49
    rintro _ u47 g48 ⟨r43, r45, rfl, h44, h46⟩
    refine sy_store ⟨28, r43.cs ++ r45.cs⟩ ty28 ?_
    refine sy_pure 5 (.v (.int .i64 0)) ?_
    refine sy_next 48 [(4, .adr 4 0), (5, .v (.int .i64 0))] [(4, ⟨28, r43.cs ++ r45.cs⟩)] ?_
    refine sw_ret (ret0 [.agg #[.bool r43.s, .slice r43.m.a r43.m.n r43.m.c, .slice r43.d.a r43.d.n r43.d.c, .bool r45.s, .slice r45.m.a r45.m.n r45.m.c, .slice r45.d.a r45.d.n r45.d.c], .int .i64 0] ⟨res_cell ty28 part_agg, res_tmp, trivial⟩ fun u50 e51 => ?_)
    exact .inr ⟨by simpa using hb15, r43, r45, rfl, (h44.ext e51), (h46.ext e51)⟩
end Go.Proofs.Ytnedhbidmfoegaa
namespace Go.Proofs.Ytnedhbidmfoegaa
open Go.RowKit
set_option linter.unusedVariables false
theorem k_r4Trim {u w : World} {a1 a2 : RL} {x1 x2 : Rat} {K : Nat} (d : Dat u w) (ha1 : RatV u a1 x1 K) (ha2 : RatV u a2 x2 K) (hK : K ≤ 100000000) : Calls Try.prog 33 #[IV a1 a2] w (Post u w fun v u' => ∃ p q : RL, v = IV p q ∧ RatN u' p (Nt.lo x1 x2) K ∧ RatN u' q (Nt.hi x1 x2) K) := by
  refine calls_sym (args := [.agg #[.bool a1.s, .slice a1.m.a a1.m.n a1.m.c, .slice a1.d.a a1.d.n a1.d.c, .bool a2.s, .slice a2.m.a a2.m.n a2.m.c, .slice a2.d.a a2.d.n a2.d.c]]) Try.func33 rfl Try.ntmps33 (rs := [.cell 2 28]) Try.results33 (le_b rfl) (le_b rfl) d ?_
  refine sw_seq ?_
  refine sw_reg ?_
  refine sy_new 1 ⟨28, a1.cs ++ a2.cs⟩ ?_
  refine sy_new 2 ⟨28, [.bool false, .slice none 0 0, .slice none 0 0, .bool false, .slice none 0 0, .slice none 0 0]⟩ ?_
  refine sy_next 14 [(1, .adr 1 0), (2, .adr 2 0)] [(1, ⟨28, a1.cs ++ a2.cs⟩), (2, ⟨28, [.bool false, .slice none 0 0, .slice none 0 0, .bool false, .slice none 0 0, .slice none 0 0]⟩)] ?_
  refine sw_seq ?_
  refine sw_any [0, 1, 0, 4, 15, 0, 32, 0, 128, 511, 1023, 2047] [(0, []), (1, []), (2, []), (3, []), (5, []), (6, []), (7, []), (8, []), (4, []), (9, []), (10, []), (11, [])] (by kernel_rfl) (by kernel_rfl) ?_
  refine sy_pure 3 (.adr 1 0) ?_
  refine sy_ldv 4 (.v (a1.v)) ty26 part_agg ?_
  refine sy_pure 5 (.adr 1 3) ?_
  refine sy_ldv 6 (.v (a2.v)) ty26 part_agg ?_
  refine sy_pure 8 (.adr 1 0) ?_
  refine sy_ldv 9 (.v (a1.v)) ty26 part_agg ?_
  refine sy_pure 10 (.adr 1 3) ?_
  refine sy_ldv 11 (.v (a2.v)) ty26 part_agg ?_
  refine sy_call 7 62 [a1.v, a2.v] ?_
  intro w11 u11 e11 d11
  have k16 := k_rqMin d11 (ha1.ext e11) (ha2.ext e11) (by omega) (by omega)
  with_reducible refine Post.mono k16 ?_
  clear k16
  rintro _ u14 g15 ⟨r12, rfl, h13⟩
  refine sy_call 12 63 [a1.v, a2.v] ?_
  intro w17 u17 e17 d17
  have k22 := k_rqMax d17 (ha1.ext (e11.trans (g15.ext.trans e17))) (ha2.ext (e11.trans (g15.ext.trans e17))) (by omega) (by omega)
  with_reducible refine Post.mono k22 ?_
  clear k22
  rintro _ u20 g21 ⟨r18, rfl, h19⟩
  refine sy_pure 13 (.v (.agg #[.bool r12.s, .slice r12.m.a r12.m.n r12.m.c, .slice r12.d.a r12.d.n r12.d.c, .bool r18.s, .slice r18.m.a r18.m.n r18.m.c, .slice r18.d.a r18.d.n r18.d.c])) ?_
  refine sy_store ⟨28, r12.cs ++ r18.cs⟩ ty28 ?_
  refine sy_next 14 [(2, .adr 2 0)] [(2, ⟨28, r12.cs ++ r18.cs⟩)] ?_
  refine sw_ret (ret0 [.agg #[.bool r12.s, .slice r12.m.a r12.m.n r12.m.c, .slice r12.d.a r12.d.n r12.d.c, .bool r18.s, .slice r18.m.a r18.m.n r18.m.c, .slice r18.d.a r18.d.n r18.d.c]] ⟨res_cell ty28 part_agg, trivial⟩ fun u23 e24 => ?_)
  refine ⟨r12, r18, rfl, RatN.more (K := (max K K)) ?_ (by omega), RatN.more (K := (max K K)) ?_ (by omega)⟩
  · exact (h13.ext (e17.trans (g21.ext.trans e24)))
  · exact (h19.ext e24)
theorem k_r4Same {u w : World} {a1 a2 : RL} {x1 x2 : Rat} {b1 b2 : RL} {y1 y2 : Rat} {K L : Nat} (d : Dat u w) (ha1 : RatN u a1 x1 K) (ha2 : RatN u a2 x2 K) (hb1 : RatN u b1 y1 L) (hb2 : RatN u b2 y2 L) : Calls Try.prog 32 #[IV a1 a2, IV b1 b2] w (Post u w fun v u' => v = .bool (decide (x1 = y1) && decide (x2 = y2))) := by
  refine calls_sym (args := [.agg #[.bool a1.s, .slice a1.m.a a1.m.n a1.m.c, .slice a1.d.a a1.d.n a1.d.c, .bool a2.s, .slice a2.m.a a2.m.n a2.m.c, .slice a2.d.a a2.d.n a2.d.c], .agg #[.bool b1.s, .slice b1.m.a b1.m.n b1.m.c, .slice b1.d.a b1.d.n b1.d.c, .bool b2.s, .slice b2.m.a b2.m.n b2.m.c, .slice b2.d.a b2.d.n b2.d.c]]) Try.func32 rfl Try.ntmps32 (rs := [.tmp 4]) Try.results32 (le_b rfl) (le_b rfl) d ?_
  refine sw_seq ?_
  refine sw_reg ?_
  refine sy_new 2 ⟨28, a1.cs ++ a2.cs⟩ ?_
  refine sy_new 3 ⟨28, b1.cs ++ b2.cs⟩ ?_
  refine sy_pure 4 (.v (.bool false)) ?_
  refine sy_next 17 [(2, .adr 2 0), (3, .adr 3 0)] [(2, ⟨28, a1.cs ++ a2.cs⟩), (3, ⟨28, b1.cs ++ b2.cs⟩)] ?_
  refine sw_seq ?_
  refine sw_reg ?_
  refine sy_pure 5 (.adr 2 0) ?_
  refine sy_ldv 6 (.v (a1.v)) ty26 part_agg ?_
  refine sy_pure 7 (.adr 3 0) ?_
  refine sy_ldv 8 (.v (b1.v)) ty26 part_agg ?_
  refine sy_call 9 61 [a1.v, b1.v] ?_
  intro w11 u11 e11 d11
  have k14 := k_rqSame d11 (ha1.ext e11) (hb1.ext e11)
  with_reducible refine Post.mono k14 ?_
  clear k14
  rintro _ u12 g13 rfl
  rcases Bool.eq_false_or_eq_true (decide (x1 = y1)) with hs15 | hs15
  · refine sy_eq 10 (x := .v (.bool (decide (x1 = y1)))) (.v (.bool true)) (by rw [hs15]) ?_
    have qhs15 := of_decide_eq_true hs15
    refine sy_pure 11 (.adr 2 3) ?_ (hw := wants1 (g := 5) (b := true) (t := 10) (by kernel_rfl) (by kernel_rfl) (by kernel_rfl))
    refine sy_ldv 12 (.v (a2.v)) ty26 part_agg ?_ (hw := wants1 (g := 5) (b := true) (t := 10) (by kernel_rfl) (by kernel_rfl) (by kernel_rfl))
    refine sy_pure 13 (.adr 3 3) ?_ (hw := wants1 (g := 5) (b := true) (t := 10) (by kernel_rfl) (by kernel_rfl) (by kernel_rfl))
    refine sy_ldv 14 (.v (b2.v)) ty26 part_agg ?_ (hw := wants1 (g := 5) (b := true) (t := 10) (by kernel_rfl) (by kernel_rfl) (by kernel_rfl))
    refine sy_call 15 61 [a2.v, b2.v] ?_ (hw := wants1 (g := 5) (b := true) (t := 10) (by kernel_rfl) (by kernel_rfl) (by kernel_rfl))
    intro w16 u16 e16 d16
    have k19 := k_rqSame d16 (ha2.ext (e11.trans (g13.ext.trans e16))) (hb2.ext (e11.trans (g13.ext.trans e16)))
    with_reducible refine Post.mono k19 ?_
    clear k19
    rintro _ u17 g18 rfl
    refine sy_pure 16 (.v (.bool (decide (x2 = y2)))) ?_
    refine sy_pure 4 (.v (.bool (decide (x2 = y2)))) ?_
    refine sy_next 17 [(4, .v (.bool (decide (x2 = y2))))] [] ?_
    refine sw_ret (ret0 [.bool (decide (x2 = y2))] ⟨res_tmp, trivial⟩ fun u20 e21 => ?_)
    show _ = _
    rw [hs15]
    rfl
  · refine sy_eq 10 (x := .v (.bool (decide (x1 = y1)))) (.v (.bool false)) (by rw [hs15]) ?_
    have qhs15 := of_decide_eq_false hs15
    refine sy_drop 11 (unwanted (g := 5) (b := true) (c := false) (t := 10) (by kernel_rfl) (by kernel_rfl) (by kernel_rfl) (by kernel_rfl)) ?_
    refine sy_drop 12 (unwanted (g := 5) (b := true) (c := false) (t := 10) (by kernel_rfl) (by kernel_rfl) (by kernel_rfl) (by kernel_rfl)) ?_
    refine sy_drop 13 (unwanted (g := 5) (b := true) (c := false) (t := 10) (by kernel_rfl) (by kernel_rfl) (by kernel_rfl) (by kernel_rfl)) ?_
    refine sy_drop 14 (unwanted (g := 5) (b := true) (c := false) (t := 10) (by kernel_rfl) (by kernel_rfl) (by kernel_rfl) (by kernel_rfl)) ?_
    refine sy_drop 15 (unwanted (g := 5) (b := true) (c := false) (t := 10) (by kernel_rfl) (by kernel_rfl) (by kernel_rfl) (by kernel_rfl)) ?_
    refine sy_pure 16 (.v (.bool false)) ?_
    refine sy_pure 4 (.v (.bool false)) ?_
    refine sy_next 17 [(4, .v (.bool false))] [] ?_
    refine sw_ret (ret0 [.bool false] ⟨res_tmp, trivial⟩ fun u22 e23 => ?_)
    show _ = _
    rw [hs15]
    rfl
theorem k_r4Make {u w : World} {a : RL} {x : Rat} {b : RL} {y : Rat} {K : Nat} (d : Dat u w) (ha : RatV u a x K) (hb : RatV u b y K) (hK : K ≤ 100000000) : Calls Try.prog 30 #[a.v, b.v] w (Post u w fun v u' => ∃ p q : RL, v = IV p q ∧ RatN u' p (Nt.lo x y) K ∧ RatN u' q (Nt.hi x y) K) := by
  refine calls_sym (args := [a.v, b.v]) Try.func30 rfl Try.ntmps30 (rs := [.cell 4 28]) Try.results30 (le_b rfl) (le_b rfl) d ?_
  refine sw_seq ?_
  refine sw_reg ?_
  refine sy_new 2 ⟨26, a.cs⟩ ?_
  refine sy_new 3 ⟨26, b.cs⟩ ?_
  refine sy_new 4 ⟨28, [.bool false, .slice none 0 0, .slice none 0 0, .bool false, .slice none 0 0, .slice none 0 0]⟩ ?_
  refine sy_next 9 [(2, .adr 2 0), (3, .adr 3 0), (4, .adr 4 0)] [(2, ⟨26, a.cs⟩), (3, ⟨26, b.cs⟩), (4, ⟨28, [.bool false, .slice none 0 0, .slice none 0 0, .bool false, .slice none 0 0, .slice none 0 0]⟩)] ?_
  refine sw_seq ?_
  refine sw_reg ?_
  refine sy_ldv 5 (.v (a.v)) ty26 part_agg ?_
  refine sy_ldv 6 (.v (b.v)) ty26 part_agg ?_
  refine sy_pure 7 (.v (.agg #[.bool a.s, .slice a.m.a a.m.n a.m.c, .slice a.d.a a.d.n a.d.c, .bool b.s, .slice b.m.a b.m.n b.m.c, .slice b.d.a b.d.n b.d.c])) ?_
  refine sy_call 8 33 [.agg #[.bool a.s, .slice a.m.a a.m.n a.m.c, .slice a.d.a a.d.n a.d.c, .bool b.s, .slice b.m.a b.m.n b.m.c, .slice b.d.a b.d.n b.d.c]] ?_
  intro w11 u11 e11 d11
  have k18 := k_r4Trim d11 (ha.ext e11) (hb.ext e11) (by omega)
  with_reducible refine Post.mono k18 ?_
  clear k18
  rintro _ u16 g17 ⟨r12, r14, rfl, h13, h15⟩
  refine sy_store ⟨28, r12.cs ++ r14.cs⟩ ty28 ?_
  refine sy_next 9 [(4, .adr 4 0)] [(4, ⟨28, r12.cs ++ r14.cs⟩)] ?_
  refine sw_ret (ret0 [.agg #[.bool r12.s, .slice r12.m.a r12.m.n r12.m.c, .slice r12.d.a r12.d.n r12.d.c, .bool r14.s, .slice r14.m.a r14.m.n r14.m.c, .slice r14.d.a r14.d.n r14.d.c]] ⟨res_cell ty28 part_agg, trivial⟩ fun u19 e20 => ?_)
  refine ⟨r12, r14, rfl, RatN.more (K := K) ?_ (by omega), RatN.more (K := K) ?_ (by omega)⟩
  · exact (h13.ext e20)
  · exact (h15.ext e20)
theorem k_r4Width {u w : World} {a1 a2 : RL} {x1 x2 : Rat} {K : Nat} (d : Dat u w) (ha1 : RatV u a1 x1 K) (ha2 : RatV u a2 x2 K) (hK : K ≤ 50000000) : Calls Try.prog 36 #[IV a1 a2] w (Post u w fun v u' => ∃ p : RL, v = p.v ∧ RatN u' p (Nt.hi x1 x2 - Nt.lo x1 x2) (K + K + 2)) := by
  refine calls_sym (args := [.agg #[.bool a1.s, .slice a1.m.a a1.m.n a1.m.c, .slice a1.d.a a1.d.n a1.d.c, .bool a2.s, .slice a2.m.a a2.m.n a2.m.c, .slice a2.d.a a2.d.n a2.d.c]]) Try.func36 rfl Try.ntmps36 (rs := [.cell 2 26]) Try.results36 (le_b rfl) (le_b rfl) d ?_
  refine sw_seq ?_
  refine sw_reg ?_
  refine sy_new 1 ⟨28, a1.cs ++ a2.cs⟩ ?_
  refine sy_new 2 ⟨26, [.bool false, .slice none 0 0, .slice none 0 0]⟩ ?_
  refine sy_next 10 [(1, .adr 1 0), (2, .adr 2 0)] [(1, ⟨28, a1.cs ++ a2.cs⟩), (2, ⟨26, [.bool false, .slice none 0 0, .slice none 0 0]⟩)] ?_
  refine sw_seq ?_
  refine sw_reg ?_
  refine sy_ldv 3 (.v (.agg #[.bool a1.s, .slice a1.m.a a1.m.n a1.m.c, .slice a1.d.a a1.d.n a1.d.c, .bool a2.s, .slice a2.m.a a2.m.n a2.m.c, .slice a2.d.a a2.d.n a2.d.c])) ty28 part_agg ?_
  refine sy_call 4 33 [.agg #[.bool a1.s, .slice a1.m.a a1.m.n a1.m.c, .slice a1.d.a a1.d.n a1.d.c, .bool a2.s, .slice a2.m.a a2.m.n a2.m.c, .slice a2.d.a a2.d.n a2.d.c]] ?_
  intro w11 u11 e11 d11
  have k18 := k_r4Trim d11 (ha1.ext e11) (ha2.ext e11) (by omega)
  with_reducible refine Post.mono k18 ?_
  clear k18
  rintro _ u16 g17 ⟨r12, r14, rfl, h13, h15⟩
  refine sy_store ⟨28, r12.cs ++ r14.cs⟩ ty28 ?_
  refine sy_next 10 [(1, .adr 1 0), (2, .adr 2 0)] [(1, ⟨28, r12.cs ++ r14.cs⟩), (2, ⟨26, [.bool false, .slice none 0 0, .slice none 0 0]⟩)] ?_
  refine sw_seq ?_
  refine sw_reg ?_
  refine sy_pure 5 (.adr 1 3) ?_
  refine sy_ldv 6 (.v (r14.v)) ty26 part_agg ?_
  refine sy_pure 7 (.adr 1 0) ?_
  refine sy_ldv 8 (.v (r12.v)) ty26 part_agg ?_
  refine sy_call 9 68 [r14.v, r12.v] ?_
  intro w19 u19 e19 d19
  have k24 := k_rqSub d19 (h15.ext e19).raw (h13.ext e19).raw (by omega) (by omega)
  with_reducible refine Post.mono k24 ?_
  clear k24
  rintro _ u22 g23 ⟨r20, rfl, h21⟩
  refine sy_store ⟨26, r20.cs⟩ ty26 ?_
  refine sy_next 10 [(2, .adr 2 0)] [(2, ⟨26, r20.cs⟩)] ?_
  refine sw_ret (ret0 [r20.v] ⟨res_cell ty26 part_agg, trivial⟩ fun u25 e26 => ?_)
  exact ⟨r20, rfl, (h21.ext e26)⟩
/-- Few digits. -/
def smR (r : RL) : Bool := decide ((r.m.n : Int) ≤ 4) && decide ((r.d.n : Int) ≤ 4)
theorem smR_few {u : World} {r : RL} {q : Rat} {K : Nat} (h : RatV u r q K) (hs : smR r = true) : RatV u r q 4 := by
  unfold smR at hs
  simp at hs
  exact h.few (by omega) (by omega) (by omega)
theorem k_smallRat {u w : World} {r : RL} (d : Dat u w) : Calls Try.prog 8 #[r.v] w (Post u w fun v _ => v = .bool (smR r)) := by
  refine calls_sym (args := [r.v]) Try.func8 rfl Try.ntmps8 (rs := [.tmp 2]) Try.results8 (le_b rfl) (le_b rfl) d ?_
  refine sw_seq ?_
  refine sw_reg ?_
  refine sy_new 1 ⟨26, r.cs⟩ ?_
  refine sy_pure 2 (.v (.bool false)) ?_
  refine sy_next 14 [(1, .adr 1 0)] [(1, ⟨26, r.cs⟩)] ?_
  refine sw_seq ?_
  refine sw_reg ?_
  refine sy_pure 3 (.adr 1 0) ?_
  refine sy_pure 4 (.adr 1 1) ?_
  refine sy_ldv 5 (.v (.slice r.m.a r.m.n r.m.c)) ty22 part_one ?_
  refine sy_pure 6 (.v (.int .i64 (r.m.n : Int))) ?_
  refine sy_pure 7 (.v (.bool (decide ((r.m.n : Int) ≤ 4)))) ?_
  rcases Bool.eq_false_or_eq_true (decide ((r.m.n : Int) ≤ 4)) with hs11 | hs11
  · refine sy_eq 8 (x := .v (.bool (decide ((r.m.n : Int) ≤ 4)))) (.v (.bool true)) (by rw [hs11]) ?_
    have qhs11 := of_decide_eq_true hs11
    refine sy_pure 9 (.adr 1 2) ?_ (hw := wants1 (g := 5) (b := true) (t := 8) (by kernel_rfl) (by kernel_rfl) (by kernel_rfl))
    refine sy_ldv 10 (.v (.slice r.d.a r.d.n r.d.c)) ty22 part_one ?_ (hw := wants1 (g := 5) (b := true) (t := 8) (by kernel_rfl) (by kernel_rfl) (by kernel_rfl))
    refine sy_pure 11 (.v (.int .i64 (r.d.n : Int))) ?_ (hw := wants1 (g := 5) (b := true) (t := 8) (by kernel_rfl) (by kernel_rfl) (by kernel_rfl))
    refine sy_pure 12 (.v (.bool (decide ((r.d.n : Int) ≤ 4)))) ?_ (hw := wants1 (g := 5) (b := true) (t := 8) (by kernel_rfl) (by kernel_rfl) (by kernel_rfl))
    refine sy_pure 13 (.v (.bool (decide ((r.d.n : Int) ≤ 4)))) ?_
    refine sy_pure 2 (.v (.bool (decide ((r.d.n : Int) ≤ 4)))) ?_
    refine sy_next 14 [(2, .v (.bool (decide ((r.d.n : Int) ≤ 4))))] [] ?_
    refine sw_ret (ret0 [.bool (decide ((r.d.n : Int) ≤ 4))] ⟨res_tmp, trivial⟩ fun u12 e13 => ?_)
    show _ = _
    unfold smR
    rw [hs11]
    rfl
  · refine sy_eq 8 (x := .v (.bool (decide ((r.m.n : Int) ≤ 4)))) (.v (.bool false)) (by rw [hs11]) ?_
    have qhs11 := of_decide_eq_false hs11
    refine sy_drop 9 (unwanted (g := 5) (b := true) (c := false) (t := 8) (by kernel_rfl) (by kernel_rfl) (by kernel_rfl) (by kernel_rfl)) ?_
    refine sy_drop 10 (unwanted (g := 5) (b := true) (c := false) (t := 8) (by kernel_rfl) (by kernel_rfl) (by kernel_rfl) (by kernel_rfl)) ?_
    refine sy_drop 11 (unwanted (g := 5) (b := true) (c := false) (t := 8) (by kernel_rfl) (by kernel_rfl) (by kernel_rfl) (by kernel_rfl)) ?_
    refine sy_drop 12 (unwanted (g := 5) (b := true) (c := false) (t := 8) (by kernel_rfl) (by kernel_rfl) (by kernel_rfl) (by kernel_rfl)) ?_
    refine sy_pure 13 (.v (.bool false)) ?_
    refine sy_pure 2 (.v (.bool false)) ?_
    refine sy_next 14 [(2, .v (.bool false))] [] ?_
    refine sw_ret (ret0 [.bool false] ⟨res_tmp, trivial⟩ fun u14 e15 => ?_)
    show _ = _
    unfold smR
    rw [hs11]
    rfl
theorem k_smallOn {u w : World} {a b : RL} (d : Dat u w) : Calls Try.prog 7 #[IV a b] w (Post u w fun v _ => v = .bool (smR a && smR b)) := by
  refine calls_sym (args := [.agg #[.bool a.s, .slice a.m.a a.m.n a.m.c, .slice a.d.a a.d.n a.d.c, .bool b.s, .slice b.m.a b.m.n b.m.c, .slice b.d.a b.d.n b.d.c]]) Try.func7 rfl Try.ntmps7 (rs := [.tmp 2]) Try.results7 (le_b rfl) (le_b rfl) d ?_
  refine sw_seq ?_
  refine sw_reg ?_
  refine sy_new 1 ⟨28, a.cs ++ b.cs⟩ ?_
  refine sy_pure 2 (.v (.bool false)) ?_
  refine sy_next 11 [(1, .adr 1 0)] [(1, ⟨28, a.cs ++ b.cs⟩)] ?_
  refine sw_seq ?_
  refine sw_reg ?_
  refine sy_pure 3 (.adr 1 0) ?_
  refine sy_ldv 4 (.v (a.v)) ty26 part_agg ?_
  refine sy_call 5 8 [a.v] ?_
  intro w11 u11 e11 d11
  have k14 := k_smallRat (r := a) d11
  with_reducible refine Post.mono k14 ?_
  clear k14
  rintro _ u12 g13 rfl
  rcases Bool.eq_false_or_eq_true (smR a) with hs15 | hs15
  · refine sy_eq 6 (x := .v (.bool (smR a))) (.v (.bool true)) (by rw [hs15]) ?_
    refine sy_pure 7 (.adr 1 3) ?_ (hw := wants1 (g := 3) (b := true) (t := 6) (by kernel_rfl) (by kernel_rfl) (by kernel_rfl))
    refine sy_ldv 8 (.v (b.v)) ty26 part_agg ?_ (hw := wants1 (g := 3) (b := true) (t := 6) (by kernel_rfl) (by kernel_rfl) (by kernel_rfl))
    refine sy_call 9 8 [b.v] ?_ (hw := wants1 (g := 3) (b := true) (t := 6) (by kernel_rfl) (by kernel_rfl) (by kernel_rfl))
    intro w16 u16 e16 d16
    have k19 := k_smallRat (r := b) d16
    with_reducible refine Post.mono k19 ?_
    clear k19
    rintro _ u17 g18 rfl
    refine sy_pure 10 (.v (.bool (smR b))) ?_
    refine sy_pure 2 (.v (.bool (smR b))) ?_
    refine sy_next 11 [(2, .v (.bool (smR b)))] [] ?_
    refine sw_ret (ret0 [.bool (smR b)] ⟨res_tmp, trivial⟩ fun u20 e21 => ?_)
    show _ = _
    rw [hs15]
    rfl
  · refine sy_eq 6 (x := .v (.bool (smR a))) (.v (.bool false)) (by rw [hs15]) ?_
    refine sy_drop 7 (unwanted (g := 3) (b := true) (c := false) (t := 6) (by kernel_rfl) (by kernel_rfl) (by kernel_rfl) (by kernel_rfl)) ?_
    refine sy_drop 8 (unwanted (g := 3) (b := true) (c := false) (t := 6) (by kernel_rfl) (by kernel_rfl) (by kernel_rfl) (by kernel_rfl)) ?_
    refine sy_drop 9 (unwanted (g := 3) (b := true) (c := false) (t := 6) (by kernel_rfl) (by kernel_rfl) (by kernel_rfl) (by kernel_rfl)) ?_
    refine sy_pure 10 (.v (.bool false)) ?_
    refine sy_pure 2 (.v (.bool false)) ?_
    refine sy_next 11 [(2, .v (.bool false))] [] ?_
    refine sw_ret (ret0 [.bool false] ⟨res_tmp, trivial⟩ fun u22 e23 => ?_)
    show _ = _
    rw [hs15]
    rfl
theorem k_ivDiv0 {u w : World} {a1 a2 b1 b2 : RL} {x1 x2 y1 y2 : Rat} {K L : Nat} (d : Dat u w) (ha1 : RatV u a1 x1 K) (ha2 : RatV u a2 x2 K) (hb1 : RatV u b1 y1 L) (hb2 : RatV u b2 y2 L) (h0 : Nt.sgI y1 y2 = 0) (hK : K ≤ 100000000) (hL : L ≤ 100000000) : Calls Try.prog 31 #[IV a1 a2, IV b1 b2] w (Post u w fun v _ => v = .tuple #[.agg #[.bool false, .slice none 0 0, .slice none 0 0, .bool false, .slice none 0 0, .slice none 0 0], .int .i64 3]) :=
  Post.mono (k_ivDiv d ha1 ha2 hb1 hb2 hK hL) fun v u' _ h => h.elim (fun h => h.2) (fun h => absurd h0 h.1)
set_option maxHeartbeats 1000000 in
theorem k_awake4 {u w : World} (d : Dat u w) : Calls Try.prog 9 #[] w (Post u w fun v _ => v = .bool true) := by
  refine calls_sym (args := []) Try.func9 rfl Try.ntmps9 (rs := [.tmp 0]) Try.results9 (le_b rfl) (le_b rfl) d ?_
  refine sw_seq ?_
  refine sw_reg ?_
  refine sy_pure 0 (.v (.bool false)) ?_
  refine sy_next 40 [] [] ?_
  refine sw_seq ?_
  refine sw_reg ?_
  refine sy_call 5 29 [.int .i64 (-1)] ?_
  intro w11 u11 e11 d11
  have k16 := k_rqOf d11 (z := (-1)) (by omega) (by omega)
  with_reducible refine Post.mono k16 ?_
  clear k16
  rintro _ u14 g15 ⟨r12, rfl, h13⟩
  refine sy_call 6 29 [.int .i64 2] ?_
  intro w17 u17 e17 d17
  have k22 := k_rqOf d17 (z := 2) (by omega) (by omega)
  with_reducible refine Post.mono k22 ?_
  clear k22
  rintro _ u20 g21 ⟨r18, rfl, h19⟩
  refine sy_call 7 30 [r12.v, r18.v] ?_
  intro w23 u23 e23 d23
  have k30 := k_r4Make d23 (h13.ext (e17.trans (g21.ext.trans e23))).raw (h19.ext e23).raw (by omega)
  with_reducible refine Post.mono k30 ?_
  clear k30
  rintro _ u28 g29 ⟨r24, r26, rfl, h25, h27⟩
  refine sy_call 8 29 [.int .i64 3] ?_
  intro w31 u31 e31 d31
  have k36 := k_rqOf d31 (z := 3) (by omega) (by omega)
  with_reducible refine Post.mono k36 ?_
  clear k36
  rintro _ u34 g35 ⟨r32, rfl, h33⟩
  refine sy_call 9 29 [.int .i64 4] ?_
  intro w37 u37 e37 d37
  have k42 := k_rqOf d37 (z := 4) (by omega) (by omega)
  with_reducible refine Post.mono k42 ?_
  clear k42
  rintro _ u40 g41 ⟨r38, rfl, h39⟩
  refine sy_call 10 30 [r32.v, r38.v] ?_
  intro w43 u43 e43 d43
  have k50 := k_r4Make d43 (h33.ext (e37.trans (g41.ext.trans e43))).raw (h39.ext e43).raw (by omega)
  with_reducible refine Post.mono k50 ?_
  clear k50
  rintro _ u48 g49 ⟨r44, r46, rfl, h45, h47⟩
  refine sy_call 11 17 [.agg #[.bool r24.s, .slice r24.m.a r24.m.n r24.m.c, .slice r24.d.a r24.d.n r24.d.c, .bool r26.s, .slice r26.m.a r26.m.n r26.m.c, .slice r26.d.a r26.d.n r26.d.c], .agg #[.bool r44.s, .slice r44.m.a r44.m.n r44.m.c, .slice r44.d.a r44.d.n r44.d.c, .bool r46.s, .slice r46.m.a r46.m.n r46.m.c, .slice r46.d.a r46.d.n r46.d.c]] ?_
  intro w51 u51 e51 d51
  have k58 := k_ivMul d51 (h25.ext (e31.trans (g35.ext.trans (e37.trans (g41.ext.trans (e43.trans (g49.ext.trans e51))))))).raw (h27.ext (e31.trans (g35.ext.trans (e37.trans (g41.ext.trans (e43.trans (g49.ext.trans e51))))))).raw (h45.ext e51).raw (h47.ext e51).raw (by omega) (by omega)
  with_reducible refine Post.mono k58 ?_
  clear k58
  rintro _ u56 g57 ⟨r52, r54, rfl, h53, h55⟩
  refine sy_new 1 ⟨28, [.bool false, .slice none 0 0, .slice none 0 0, .bool false, .slice none 0 0, .slice none 0 0]⟩ ?_
  refine sy_store ⟨28, r52.cs ++ r54.cs⟩ ty28 ?_
  refine sy_next 40 [(1, .adr 1 0)] [(1, ⟨28, r52.cs ++ r54.cs⟩)] ?_
  refine sw_seq ?_
  refine sw_reg ?_
  refine sy_call 12 29 [.int .i64 (-1)] ?_
  intro w59 u59 e59 d59
  have k64 := k_rqOf d59 (z := (-1)) (by omega) (by omega)
  with_reducible refine Post.mono k64 ?_
  clear k64
  rintro _ u62 g63 ⟨r60, rfl, h61⟩
  refine sy_call 13 29 [.int .i64 2] ?_
  intro w65 u65 e65 d65
  have k70 := k_rqOf d65 (z := 2) (by omega) (by omega)
  with_reducible refine Post.mono k70 ?_
  clear k70
  rintro _ u68 g69 ⟨r66, rfl, h67⟩
  refine sy_call 14 30 [r60.v, r66.v] ?_
  intro w71 u71 e71 d71
  have k78 := k_r4Make d71 (h61.ext (e65.trans (g69.ext.trans e71))).raw (h67.ext e71).raw (by omega)
  with_reducible refine Post.mono k78 ?_
  clear k78
  rintro _ u76 g77 ⟨r72, r74, rfl, h73, h75⟩
  refine sy_call 15 18 [.agg #[.bool r72.s, .slice r72.m.a r72.m.n r72.m.c, .slice r72.d.a r72.d.n r72.d.c, .bool r74.s, .slice r74.m.a r74.m.n r74.m.c, .slice r74.d.a r74.d.n r74.d.c]] ?_
  intro w79 u79 e79 d79
  have k86 := k_ivSquare d79 (h73.ext e79).raw (h75.ext e79).raw (by omega)
  with_reducible refine Post.mono k86 ?_
  clear k86
  rintro _ u84 g85 ⟨r80, r82, rfl, h81, h83⟩
  refine sy_new 2 ⟨28, [.bool false, .slice none 0 0, .slice none 0 0, .bool false, .slice none 0 0, .slice none 0 0]⟩ ?_
  refine sy_store ⟨28, r80.cs ++ r82.cs⟩ ty28 ?_
  refine sy_next 40 [(1, .adr 1 0), (2, .adr 2 0)] [(1, ⟨28, r52.cs ++ r54.cs⟩), (2, ⟨28, r80.cs ++ r82.cs⟩)] ?_
  refine sw_seq ?_
  refine sw_any [0, 0, 2, 6, 15, 31, 63, 63, 0, 383, 1023] [(0, []), (8, []), (1, []), (2, []), (3, []), (4, []), (5, []), (6, []), (7, []), (9, []), (10, [])] (by kernel_rfl) (by kernel_rfl) ?_
  refine sy_ldv 17 (.v (.agg #[.bool r52.s, .slice r52.m.a r52.m.n r52.m.c, .slice r52.d.a r52.d.n r52.d.c, .bool r54.s, .slice r54.m.a r54.m.n r54.m.c, .slice r54.d.a r54.d.n r54.d.c])) ty28 part_agg ?_
  refine sy_new 3 ⟨28, [.bool false, .slice none 0 0, .slice none 0 0, .bool false, .slice none 0 0, .slice none 0 0]⟩ ?_
  refine sy_call 18 29 [.int .i64 (-1)] ?_
  intro w87 u87 e87 d87
  have k92 := k_rqOf d87 (z := (-1)) (by omega) (by omega)
  with_reducible refine Post.mono k92 ?_
  clear k92
  rintro _ u90 g91 ⟨r88, rfl, h89⟩
  refine sy_call 19 29 [.int .i64 1] ?_
  intro w93 u93 e93 d93
  have k98 := k_rqOf d93 (z := 1) (by omega) (by omega)
  with_reducible refine Post.mono k98 ?_
  clear k98
  rintro _ u96 g97 ⟨r94, rfl, h95⟩
  refine sy_call 20 30 [r88.v, r94.v] ?_
  intro w99 u99 e99 d99
  have k106 := k_r4Make d99 (h89.ext (e93.trans (g97.ext.trans e99))).raw (h95.ext e99).raw (by omega)
  with_reducible refine Post.mono k106 ?_
  clear k106
  rintro _ u104 g105 ⟨r100, r102, rfl, h101, h103⟩
  refine sy_call 21 31 [.agg #[.bool r52.s, .slice r52.m.a r52.m.n r52.m.c, .slice r52.d.a r52.d.n r52.d.c, .bool r54.s, .slice r54.m.a r54.m.n r54.m.c, .slice r54.d.a r54.d.n r54.d.c], .agg #[.bool r100.s, .slice r100.m.a r100.m.n r100.m.c, .slice r100.d.a r100.d.n r100.d.c, .bool r102.s, .slice r102.m.a r102.m.n r102.m.c, .slice r102.d.a r102.d.n r102.d.c]] ?_
  intro w107 u107 e107 d107
  have k110 := k_ivDiv0 d107 (h53.ext (e59.trans (g63.ext.trans (e65.trans (g69.ext.trans (e71.trans (g77.ext.trans (e79.trans (g85.ext.trans (e87.trans (g91.ext.trans (e93.trans (g97.ext.trans (e99.trans (g105.ext.trans e107))))))))))))))).raw (h55.ext (e59.trans (g63.ext.trans (e65.trans (g69.ext.trans (e71.trans (g77.ext.trans (e79.trans (g85.ext.trans (e87.trans (g91.ext.trans (e93.trans (g97.ext.trans (e99.trans (g105.ext.trans e107))))))))))))))).raw (h101.ext e107).raw (h103.ext e107).raw (by decide +kernel) (by omega) (by omega)
  with_reducible refine Post.mono k110 ?_
  clear k110
  rintro _ u108 g109 rfl
  refine sy_pure 16 (.v (.tuple #[.agg #[.bool false, .slice none 0 0, .slice none 0 0, .bool false, .slice none 0 0, .slice none 0 0], .int .i64 3])) ?_
  refine sy_pure 22 (.v (.agg #[.bool false, .slice none 0 0, .slice none 0 0, .bool false, .slice none 0 0, .slice none 0 0])) ?_
  refine sy_pure 23 (.v (.int .i64 3)) ?_
  refine sy_store ⟨28, [.bool false, .slice none 0 0, .slice none 0 0, .bool false, .slice none 0 0, .slice none 0 0]⟩ ty28 ?_
  refine sy_pure 4 (.v (.int .i64 3)) ?_
  refine sy_next 40 [(1, .adr 1 0), (2, .adr 2 0), (4, .v (.int .i64 3))] [(1, ⟨28, r52.cs ++ r54.cs⟩), (2, ⟨28, r80.cs ++ r82.cs⟩)] ?_
  refine sw_seq ?_
  refine sw_any [0, 1, 3, 7, 7, 23, 55, 127, 255, 511, 1023, 1023, 3071, 7167, 16383, 32767, 65535] [(0, []), (1, []), (2, []), (3, []), (4, []), (5, []), (6, []), (7, []), (8, []), (9, []), (10, []), (11, []), (12, []), (13, []), (14, []), (15, []), (16, [])] (by kernel_rfl) (by kernel_rfl) ?_
  refine sy_pure 24 (.v (.int .i64 3)) ?_
  refine sy_pure 25 (.v (.bool true)) ?_
  refine sy_pure 26 (.v (.bool true)) ?_
  refine sy_ldv 27 (.v (.agg #[.bool r52.s, .slice r52.m.a r52.m.n r52.m.c, .slice r52.d.a r52.d.n r52.d.c, .bool r54.s, .slice r54.m.a r54.m.n r54.m.c, .slice r54.d.a r54.d.n r54.d.c])) ty28 part_agg ?_ (hw := wants1 (g := 2) (b := true) (t := 26) (by kernel_rfl) (by kernel_rfl) (by kernel_rfl))
  refine sy_call 28 29 [.int .i64 (-4)] ?_ (hw := wants1 (g := 2) (b := true) (t := 26) (by kernel_rfl) (by kernel_rfl) (by kernel_rfl))
  intro w111 u111 e111 d111
  have k116 := k_rqOf d111 (z := (-4)) (by omega) (by omega)
  with_reducible refine Post.mono k116 ?_
  clear k116
  rintro _ u114 g115 ⟨r112, rfl, h113⟩
  refine sy_call 29 29 [.int .i64 8] ?_ (hw := wants1 (g := 2) (b := true) (t := 26) (by kernel_rfl) (by kernel_rfl) (by kernel_rfl))
  intro w117 u117 e117 d117
  have k122 := k_rqOf d117 (z := 8) (by omega) (by omega)
  with_reducible refine Post.mono k122 ?_
  clear k122
  rintro _ u120 g121 ⟨r118, rfl, h119⟩
  refine sy_call 30 30 [r112.v, r118.v] ?_ (hw := wants1 (g := 2) (b := true) (t := 26) (by kernel_rfl) (by kernel_rfl) (by kernel_rfl))
  intro w123 u123 e123 d123
  have k130 := k_r4Make d123 (h113.ext (e117.trans (g121.ext.trans e123))).raw (h119.ext e123).raw (by omega)
  with_reducible refine Post.mono k130 ?_
  clear k130
  rintro _ u128 g129 ⟨r124, r126, rfl, h125, h127⟩
  refine sy_call 31 32 [.agg #[.bool r52.s, .slice r52.m.a r52.m.n r52.m.c, .slice r52.d.a r52.d.n r52.d.c, .bool r54.s, .slice r54.m.a r54.m.n r54.m.c, .slice r54.d.a r54.d.n r54.d.c], .agg #[.bool r124.s, .slice r124.m.a r124.m.n r124.m.c, .slice r124.d.a r124.d.n r124.d.c, .bool r126.s, .slice r126.m.a r126.m.n r126.m.c, .slice r126.d.a r126.d.n r126.d.c]] ?_ (hw := wants1 (g := 2) (b := true) (t := 26) (by kernel_rfl) (by kernel_rfl) (by kernel_rfl))
  intro w131 u131 e131 d131
  have k134 := k_r4Same d131 (h53.ext (e59.trans (g63.ext.trans (e65.trans (g69.ext.trans (e71.trans (g77.ext.trans (e79.trans (g85.ext.trans (e87.trans (g91.ext.trans (e93.trans (g97.ext.trans (e99.trans (g105.ext.trans (e107.trans (g109.ext.trans (e111.trans (g115.ext.trans (e117.trans (g121.ext.trans (e123.trans (g129.ext.trans e131))))))))))))))))))))))) (h55.ext (e59.trans (g63.ext.trans (e65.trans (g69.ext.trans (e71.trans (g77.ext.trans (e79.trans (g85.ext.trans (e87.trans (g91.ext.trans (e93.trans (g97.ext.trans (e99.trans (g105.ext.trans (e107.trans (g109.ext.trans (e111.trans (g115.ext.trans (e117.trans (g121.ext.trans (e123.trans (g129.ext.trans e131))))))))))))))))))))))) (h125.ext e131) (h127.ext e131)
  with_reducible refine Post.mono k134 ?_
  clear k134
  rintro _ u132 g133 rfl
  refine sy_pure 32 (.v (.bool (decide ((Nt.lo4 ((Nt.lo (((-1) : Int) : Rat) ((2 : Int) : Rat)) * (Nt.lo ((3 : Int) : Rat) ((4 : Int) : Rat))) ((Nt.lo (((-1) : Int) : Rat) ((2 : Int) : Rat)) * (Nt.hi ((3 : Int) : Rat) ((4 : Int) : Rat))) ((Nt.hi (((-1) : Int) : Rat) ((2 : Int) : Rat)) * (Nt.lo ((3 : Int) : Rat) ((4 : Int) : Rat))) ((Nt.hi (((-1) : Int) : Rat) ((2 : Int) : Rat)) * (Nt.hi ((3 : Int) : Rat) ((4 : Int) : Rat)))) = (Nt.lo (((-4) : Int) : Rat) ((8 : Int) : Rat))) && decide ((Nt.hi4 ((Nt.lo (((-1) : Int) : Rat) ((2 : Int) : Rat)) * (Nt.lo ((3 : Int) : Rat) ((4 : Int) : Rat))) ((Nt.lo (((-1) : Int) : Rat) ((2 : Int) : Rat)) * (Nt.hi ((3 : Int) : Rat) ((4 : Int) : Rat))) ((Nt.hi (((-1) : Int) : Rat) ((2 : Int) : Rat)) * (Nt.lo ((3 : Int) : Rat) ((4 : Int) : Rat))) ((Nt.hi (((-1) : Int) : Rat) ((2 : Int) : Rat)) * (Nt.hi ((3 : Int) : Rat) ((4 : Int) : Rat)))) = (Nt.hi (((-4) : Int) : Rat) ((8 : Int) : Rat)))))) ?_
  refine sy_eq 33 (x := .v (.bool (decide ((Nt.lo4 ((Nt.lo (((-1) : Int) : Rat) ((2 : Int) : Rat)) * (Nt.lo ((3 : Int) : Rat) ((4 : Int) : Rat))) ((Nt.lo (((-1) : Int) : Rat) ((2 : Int) : Rat)) * (Nt.hi ((3 : Int) : Rat) ((4 : Int) : Rat))) ((Nt.hi (((-1) : Int) : Rat) ((2 : Int) : Rat)) * (Nt.lo ((3 : Int) : Rat) ((4 : Int) : Rat))) ((Nt.hi (((-1) : Int) : Rat) ((2 : Int) : Rat)) * (Nt.hi ((3 : Int) : Rat) ((4 : Int) : Rat)))) = (Nt.lo (((-4) : Int) : Rat) ((8 : Int) : Rat))) && decide ((Nt.hi4 ((Nt.lo (((-1) : Int) : Rat) ((2 : Int) : Rat)) * (Nt.lo ((3 : Int) : Rat) ((4 : Int) : Rat))) ((Nt.lo (((-1) : Int) : Rat) ((2 : Int) : Rat)) * (Nt.hi ((3 : Int) : Rat) ((4 : Int) : Rat))) ((Nt.hi (((-1) : Int) : Rat) ((2 : Int) : Rat)) * (Nt.lo ((3 : Int) : Rat) ((4 : Int) : Rat))) ((Nt.hi (((-1) : Int) : Rat) ((2 : Int) : Rat)) * (Nt.hi ((3 : Int) : Rat) ((4 : Int) : Rat)))) = (Nt.hi (((-4) : Int) : Rat) ((8 : Int) : Rat)))))) (.v (.bool true)) (by rw [show (decide ((Nt.lo4 ((Nt.lo (((-1) : Int) : Rat) ((2 : Int) : Rat)) * (Nt.lo ((3 : Int) : Rat) ((4 : Int) : Rat))) ((Nt.lo (((-1) : Int) : Rat) ((2 : Int) : Rat)) * (Nt.hi ((3 : Int) : Rat) ((4 : Int) : Rat))) ((Nt.hi (((-1) : Int) : Rat) ((2 : Int) : Rat)) * (Nt.lo ((3 : Int) : Rat) ((4 : Int) : Rat))) ((Nt.hi (((-1) : Int) : Rat) ((2 : Int) : Rat)) * (Nt.hi ((3 : Int) : Rat) ((4 : Int) : Rat)))) = (Nt.lo (((-4) : Int) : Rat) ((8 : Int) : Rat))) && decide ((Nt.hi4 ((Nt.lo (((-1) : Int) : Rat) ((2 : Int) : Rat)) * (Nt.lo ((3 : Int) : Rat) ((4 : Int) : Rat))) ((Nt.lo (((-1) : Int) : Rat) ((2 : Int) : Rat)) * (Nt.hi ((3 : Int) : Rat) ((4 : Int) : Rat))) ((Nt.hi (((-1) : Int) : Rat) ((2 : Int) : Rat)) * (Nt.lo ((3 : Int) : Rat) ((4 : Int) : Rat))) ((Nt.hi (((-1) : Int) : Rat) ((2 : Int) : Rat)) * (Nt.hi ((3 : Int) : Rat) ((4 : Int) : Rat)))) = (Nt.hi (((-4) : Int) : Rat) ((8 : Int) : Rat)))) = true from (by decide +kernel)]) ?_
  refine sy_ldv 34 (.v (.agg #[.bool r80.s, .slice r80.m.a r80.m.n r80.m.c, .slice r80.d.a r80.d.n r80.d.c, .bool r82.s, .slice r82.m.a r82.m.n r82.m.c, .slice r82.d.a r82.d.n r82.d.c])) ty28 part_agg ?_ (hw := wants1 (g := 9) (b := true) (t := 33) (by kernel_rfl) (by kernel_rfl) (by kernel_rfl))
  refine sy_call 35 29 [.int .i64 0] ?_ (hw := wants1 (g := 9) (b := true) (t := 33) (by kernel_rfl) (by kernel_rfl) (by kernel_rfl))
  intro w136 u136 e136 d136
  have k141 := k_rqOf d136 (z := 0) (by omega) (by omega)
  with_reducible refine Post.mono k141 ?_
  clear k141
  rintro _ u139 g140 ⟨r137, rfl, h138⟩
  refine sy_call 36 29 [.int .i64 4] ?_ (hw := wants1 (g := 9) (b := true) (t := 33) (by kernel_rfl) (by kernel_rfl) (by kernel_rfl))
  intro w142 u142 e142 d142
  have k147 := k_rqOf d142 (z := 4) (by omega) (by omega)
  with_reducible refine Post.mono k147 ?_
  clear k147
  rintro _ u145 g146 ⟨r143, rfl, h144⟩
  refine sy_call 37 30 [r137.v, r143.v] ?_ (hw := wants1 (g := 9) (b := true) (t := 33) (by kernel_rfl) (by kernel_rfl) (by kernel_rfl))
  intro w148 u148 e148 d148
  have k155 := k_r4Make d148 (h138.ext (e142.trans (g146.ext.trans e148))).raw (h144.ext e148).raw (by omega)
  with_reducible refine Post.mono k155 ?_
  clear k155
  rintro _ u153 g154 ⟨r149, r151, rfl, h150, h152⟩
  refine sy_call 38 32 [.agg #[.bool r80.s, .slice r80.m.a r80.m.n r80.m.c, .slice r80.d.a r80.d.n r80.d.c, .bool r82.s, .slice r82.m.a r82.m.n r82.m.c, .slice r82.d.a r82.d.n r82.d.c], .agg #[.bool r149.s, .slice r149.m.a r149.m.n r149.m.c, .slice r149.d.a r149.d.n r149.d.c, .bool r151.s, .slice r151.m.a r151.m.n r151.m.c, .slice r151.d.a r151.d.n r151.d.c]] ?_ (hw := wants1 (g := 9) (b := true) (t := 33) (by kernel_rfl) (by kernel_rfl) (by kernel_rfl))
  intro w156 u156 e156 d156
  have k159 := k_r4Same d156 (h81.ext (e87.trans (g91.ext.trans (e93.trans (g97.ext.trans (e99.trans (g105.ext.trans (e107.trans (g109.ext.trans (e111.trans (g115.ext.trans (e117.trans (g121.ext.trans (e123.trans (g129.ext.trans (e131.trans (g133.ext.trans (e136.trans (g140.ext.trans (e142.trans (g146.ext.trans (e148.trans (g154.ext.trans e156))))))))))))))))))))))) (h83.ext (e87.trans (g91.ext.trans (e93.trans (g97.ext.trans (e99.trans (g105.ext.trans (e107.trans (g109.ext.trans (e111.trans (g115.ext.trans (e117.trans (g121.ext.trans (e123.trans (g129.ext.trans (e131.trans (g133.ext.trans (e136.trans (g140.ext.trans (e142.trans (g146.ext.trans (e148.trans (g154.ext.trans e156))))))))))))))))))))))) (h150.ext e156) (h152.ext e156)
  with_reducible refine Post.mono k159 ?_
  clear k159
  rintro _ u157 g158 rfl
  refine sy_pure 39 (.v (.bool (decide ((if Nt.sgI (Nt.lo (((-1) : Int) : Rat) ((2 : Int) : Rat)) (Nt.hi (((-1) : Int) : Rat) ((2 : Int) : Rat)) = 0 then 0 else Nt.lo ((Nt.lo (((-1) : Int) : Rat) ((2 : Int) : Rat)) * (Nt.lo (((-1) : Int) : Rat) ((2 : Int) : Rat))) ((Nt.hi (((-1) : Int) : Rat) ((2 : Int) : Rat)) * (Nt.hi (((-1) : Int) : Rat) ((2 : Int) : Rat)))) = (Nt.lo ((0 : Int) : Rat) ((4 : Int) : Rat))) && decide ((Nt.hi ((Nt.lo (((-1) : Int) : Rat) ((2 : Int) : Rat)) * (Nt.lo (((-1) : Int) : Rat) ((2 : Int) : Rat))) ((Nt.hi (((-1) : Int) : Rat) ((2 : Int) : Rat)) * (Nt.hi (((-1) : Int) : Rat) ((2 : Int) : Rat)))) = (Nt.hi ((0 : Int) : Rat) ((4 : Int) : Rat)))))) ?_
  refine sy_pure 0 (.v (.bool (decide ((if Nt.sgI (Nt.lo (((-1) : Int) : Rat) ((2 : Int) : Rat)) (Nt.hi (((-1) : Int) : Rat) ((2 : Int) : Rat)) = 0 then 0 else Nt.lo ((Nt.lo (((-1) : Int) : Rat) ((2 : Int) : Rat)) * (Nt.lo (((-1) : Int) : Rat) ((2 : Int) : Rat))) ((Nt.hi (((-1) : Int) : Rat) ((2 : Int) : Rat)) * (Nt.hi (((-1) : Int) : Rat) ((2 : Int) : Rat)))) = (Nt.lo ((0 : Int) : Rat) ((4 : Int) : Rat))) && decide ((Nt.hi ((Nt.lo (((-1) : Int) : Rat) ((2 : Int) : Rat)) * (Nt.lo (((-1) : Int) : Rat) ((2 : Int) : Rat))) ((Nt.hi (((-1) : Int) : Rat) ((2 : Int) : Rat)) * (Nt.hi (((-1) : Int) : Rat) ((2 : Int) : Rat)))) = (Nt.hi ((0 : Int) : Rat) ((4 : Int) : Rat)))))) ?_
  refine sy_next 40 [(0, .v (.bool (decide ((if Nt.sgI (Nt.lo (((-1) : Int) : Rat) ((2 : Int) : Rat)) (Nt.hi (((-1) : Int) : Rat) ((2 : Int) : Rat)) = 0 then 0 else Nt.lo ((Nt.lo (((-1) : Int) : Rat) ((2 : Int) : Rat)) * (Nt.lo (((-1) : Int) : Rat) ((2 : Int) : Rat))) ((Nt.hi (((-1) : Int) : Rat) ((2 : Int) : Rat)) * (Nt.hi (((-1) : Int) : Rat) ((2 : Int) : Rat)))) = (Nt.lo ((0 : Int) : Rat) ((4 : Int) : Rat))) && decide ((Nt.hi ((Nt.lo (((-1) : Int) : Rat) ((2 : Int) : Rat)) * (Nt.lo (((-1) : Int) : Rat) ((2 : Int) : Rat))) ((Nt.hi (((-1) : Int) : Rat) ((2 : Int) : Rat)) * (Nt.hi (((-1) : Int) : Rat) ((2 : Int) : Rat)))) = (Nt.hi ((0 : Int) : Rat) ((4 : Int) : Rat))))))] [] ?_
  refine sw_ret (ret0 [.bool (decide ((if Nt.sgI (Nt.lo (((-1) : Int) : Rat) ((2 : Int) : Rat)) (Nt.hi (((-1) : Int) : Rat) ((2 : Int) : Rat)) = 0 then 0 else Nt.lo ((Nt.lo (((-1) : Int) : Rat) ((2 : Int) : Rat)) * (Nt.lo (((-1) : Int) : Rat) ((2 : Int) : Rat))) ((Nt.hi (((-1) : Int) : Rat) ((2 : Int) : Rat)) * (Nt.hi (((-1) : Int) : Rat) ((2 : Int) : Rat)))) = (Nt.lo ((0 : Int) : Rat) ((4 : Int) : Rat))) && decide ((Nt.hi ((Nt.lo (((-1) : Int) : Rat) ((2 : Int) : Rat)) * (Nt.lo (((-1) : Int) : Rat) ((2 : Int) : Rat))) ((Nt.hi (((-1) : Int) : Rat) ((2 : Int) : Rat)) * (Nt.hi (((-1) : Int) : Rat) ((2 : Int) : Rat)))) = (Nt.hi ((0 : Int) : Rat) ((4 : Int) : Rat))))] ⟨res_tmp, trivial⟩ fun u160 e161 => ?_)
  show Value.bool _ = Value.bool _
  rw [show (decide ((if Nt.sgI (Nt.lo (((-1) : Int) : Rat) ((2 : Int) : Rat)) (Nt.hi (((-1) : Int) : Rat) ((2 : Int) : Rat)) = 0 then 0 else Nt.lo ((Nt.lo (((-1) : Int) : Rat) ((2 : Int) : Rat)) * (Nt.lo (((-1) : Int) : Rat) ((2 : Int) : Rat))) ((Nt.hi (((-1) : Int) : Rat) ((2 : Int) : Rat)) * (Nt.hi (((-1) : Int) : Rat) ((2 : Int) : Rat)))) = (Nt.lo ((0 : Int) : Rat) ((4 : Int) : Rat))) && decide ((Nt.hi ((Nt.lo (((-1) : Int) : Rat) ((2 : Int) : Rat)) * (Nt.lo (((-1) : Int) : Rat) ((2 : Int) : Rat))) ((Nt.hi (((-1) : Int) : Rat) ((2 : Int) : Rat)) * (Nt.hi (((-1) : Int) : Rat) ((2 : Int) : Rat)))) = (Nt.hi ((0 : Int) : Rat) ((4 : Int) : Rat)))) = true from by decide +kernel]
theorem lohi (x y : Rat) : Nt.lo (Nt.lo x y) (Nt.hi x y) = Nt.lo x y ∧ Nt.hi (Nt.lo x y) (Nt.hi x y) = Nt.hi x y := Nt.lo_of_le (Nt.lo_le_hi x y)
/-- A number of an interval. -/
def btw (x y : Rat) (n : Int) : Rat := Nt.lo x y + (Nt.hi x y - Nt.lo x y) * (((n % 9 : Int) : Rat) / ((8 : Int) : Rat))
theorem k_between {u w : World} {a1 a2 : RL} {x1 x2 : Rat} {n : Int} {K : Nat} (d : Dat u w) (ha1 : RatV u a1 x1 K) (ha2 : RatV u a2 x2 K) (hK : K ≤ 10000000) (hn0 : -9223372036854775808 ≤ n) (hn1 : n ≤ 9223372036854775807) : Calls Try.prog 10 #[IV a1 a2, .int .i64 n] w (Post u w fun v u' => ∃ p : RL, v = p.v ∧ RatN u' p (btw x1 x2 n) (3 * K + 10)) := by
  refine calls_sym (args := [.agg #[.bool a1.s, .slice a1.m.a a1.m.n a1.m.c, .slice a1.d.a a1.d.n a1.d.c, .bool a2.s, .slice a2.m.a a2.m.n a2.m.c, .slice a2.d.a a2.d.n a2.d.c], .int .i64 n]) Try.func10 rfl Try.ntmps10 (rs := [.cell 4 26]) Try.results10 (le_b rfl) (le_b rfl) d ?_
  refine sw_seq ?_
  refine sw_reg ?_
  refine sy_new 2 ⟨28, a1.cs ++ a2.cs⟩ ?_
  refine sy_new 4 ⟨26, [.bool false, .slice none 0 0, .slice none 0 0]⟩ ?_
  refine sy_next 16 [(1, .v (.int .i64 n)), (2, .adr 2 0), (4, .adr 4 0)] [(2, ⟨28, a1.cs ++ a2.cs⟩), (4, ⟨26, [.bool false, .slice none 0 0, .slice none 0 0]⟩)] ?_
  refine sw_seq ?_
  refine sw_reg ?_
  refine sy_ldv 5 (.v (.agg #[.bool a1.s, .slice a1.m.a a1.m.n a1.m.c, .slice a1.d.a a1.d.n a1.d.c, .bool a2.s, .slice a2.m.a a2.m.n a2.m.c, .slice a2.d.a a2.d.n a2.d.c])) ty28 part_agg ?_
  refine sy_call 6 33 [.agg #[.bool a1.s, .slice a1.m.a a1.m.n a1.m.c, .slice a1.d.a a1.d.n a1.d.c, .bool a2.s, .slice a2.m.a a2.m.n a2.m.c, .slice a2.d.a a2.d.n a2.d.c]] ?_
  intro w11 u11 e11 d11
  have k18 := k_r4Trim d11 (ha1.ext e11) (ha2.ext e11) (by omega)
  with_reducible refine Post.mono k18 ?_
  clear k18
  rintro _ u16 g17 ⟨r12, r14, rfl, h13, h15⟩
  refine sy_store ⟨28, r12.cs ++ r14.cs⟩ ty28 ?_
  refine sy_next 16 [(1, .v (.int .i64 n)), (2, .adr 2 0), (4, .adr 4 0)] [(2, ⟨28, r12.cs ++ r14.cs⟩), (4, ⟨26, [.bool false, .slice none 0 0, .slice none 0 0]⟩)] ?_
  refine sw_seq ?_
  refine sw_any [0, 1, 0, 4, 0, 28, 60, 124, 255, 511] [(0, []), (1, []), (2, []), (4, []), (3, []), (5, []), (6, []), (7, []), (8, []), (9, [])] (by kernel_rfl) (by kernel_rfl) ?_
  refine sy_pure 7 (.adr 2 0) ?_
  refine sy_ldv 8 (.v (r12.v)) ty26 part_agg ?_
  refine sy_ldv 9 (.v (.agg #[.bool r12.s, .slice r12.m.a r12.m.n r12.m.c, .slice r12.d.a r12.d.n r12.d.c, .bool r14.s, .slice r14.m.a r14.m.n r14.m.c, .slice r14.d.a r14.d.n r14.d.c])) ty28 part_agg ?_
  refine sy_pure 11 (.v (.int .i64 n)) ?_
  refine sy_call 10 36 [.agg #[.bool r12.s, .slice r12.m.a r12.m.n r12.m.c, .slice r12.d.a r12.d.n r12.d.c, .bool r14.s, .slice r14.m.a r14.m.n r14.m.c, .slice r14.d.a r14.d.n r14.d.c]] ?_
  intro w19 u19 e19 d19
  have k24 := k_r4Width d19 (h13.ext e19).raw (h15.ext e19).raw (by omega)
  with_reducible refine Post.mono k24 ?_
  clear k24
  rintro _ u22 g23 ⟨r20, rfl, h21⟩
  refine sy_call 12 38 [.int .i64 n, .int .i64 9] ?_
  intro w25 u25 e25 d25
  have k28 := k_Mod d25 (n := n) (m := 9) (by omega) (by omega) (by omega) (by omega)
  with_reducible refine Post.mono k28 ?_
  clear k28
  rintro _ u26 g27 rfl
  refine sy_call 13 37 [.int .i64 (n % 9), .int .i64 8] ?_
  intro w29 u29 e29 d29
  have k34 := k_rqFrac d29 (a := n % 9) (b := 8) (by omega) (by omega) (by omega) (by omega)
  with_reducible refine Post.mono k34 ?_
  clear k34
  rintro _ u32 g33 ⟨r30, rfl, h31⟩
  refine sy_call 14 35 [r20.v, r30.v] ?_
  intro w35 u35 e35 d35
  have k40 := k_rqMul d35 (h21.ext (e25.trans (g27.ext.trans (e29.trans (g33.ext.trans e35))))).raw (h31.ext e35).raw (by omega) (by omega)
  with_reducible refine Post.mono k40 ?_
  clear k40
  rintro _ u38 g39 ⟨r36, rfl, h37⟩
  refine sy_call 15 34 [r12.v, r36.v] ?_
  intro w41 u41 e41 d41
  have k46 := k_rqAdd d41 (h13.ext (e19.trans (g23.ext.trans (e25.trans (g27.ext.trans (e29.trans (g33.ext.trans (e35.trans (g39.ext.trans e41))))))))).raw (h37.ext e41).raw (by omega) (by omega)
  with_reducible refine Post.mono k46 ?_
  clear k46
  rintro _ u44 g45 ⟨r42, rfl, h43⟩
  refine sy_store ⟨26, r42.cs⟩ ty26 ?_
  refine sy_next 16 [(4, .adr 4 0)] [(4, ⟨26, r42.cs⟩)] ?_
  refine sw_ret (ret0 [r42.v] ⟨res_cell ty26 part_agg, trivial⟩ fun u47 e48 => ?_)
  refine ⟨r42, rfl, RatN.more (K := (K + ((K + K + 2) + 3 + 1) + 2)) ?_ (by omega)⟩
  unfold btw
  have h9 := (h43.ext e48)
  rw [(lohi x1 x2).1, (lohi x1 x2).2] at h9
  exact h9
end Go.Proofs.Ytnedhbidmfoegaa
namespace Go.Proofs.Ytnedhbidmfoegaa
set_option linter.unusedVariables false
namespace Nt
theorem nott {b : Bool} (h : b = true) : (!b) = false := by rw [h]; rfl
theorem inI_true {a b x : Rat} : inI a b x = true ↔ lo a b ≤ x ∧ x ≤ hi a b := by unfold inI; simp
theorem lo_le (a b : Rat) : lo a b ≤ a ∧ lo a b ≤ b := by unfold lo; grind
theorem le_hi (a b : Rat) : a ≤ hi a b ∧ b ≤ hi a b := by unfold hi; grind
section
variable {a1 a2 b1 b2 c1 c2 d1 d2 : Rat}
/-- What Hull makes. -/
def hl (a b c d : Rat) : Rat := lo (lo a b) (lo c d)
def hh (a b c d : Rat) : Rat := hi (hi a b) (hi c d)
theorem hl_le : hl a1 a2 c1 c2 ≤ lo a1 a2 ∧ hl a1 a2 c1 c2 ≤ lo c1 c2 := lo_le _ _
theorem hh_ge : hi a1 a2 ≤ hh a1 a2 c1 c2 ∧ hi c1 c2 ≤ hh a1 a2 c1 c2 := le_hi _ _
theorem hull_ok : lo (hl a1 a2 c1 c2) (hh a1 a2 c1 c2) = hl a1 a2 c1 c2 ∧ hi (hl a1 a2 c1 c2) (hh a1 a2 c1 c2) = hh a1 a2 c1 c2 := by
  apply lo_of_le
  have h1 := hl_le (a1 := a1) (a2 := a2) (c1 := c1) (c2 := c2)
  have h2 := hh_ge (a1 := a1) (a2 := a2) (c1 := c1) (c2 := c2)
  have h3 := lo_le_hi a1 a2
  grind
theorem meet0 {q : Rat} (h : lo (hi a1 a2) (hi b1 b2) < hi (lo a1 a2) (lo b1 b2)) : (inI a1 a2 q && inI b1 b2 q) = false := by
  rw [Bool.eq_false_iff]
  intro hc
  rw [Bool.and_eq_true, inI_true, inI_true] at hc
  have h1 := lo_le (hi a1 a2) (hi b1 b2)
  have h2 := le_hi (lo a1 a2) (lo b1 b2)
  have e1 : lo (hi a1 a2) (hi b1 b2) = hi a1 a2 ∨ lo (hi a1 a2) (hi b1 b2) = hi b1 b2 := by unfold lo; split <;> simp
  have e2 : hi (lo a1 a2) (lo b1 b2) = lo a1 a2 ∨ hi (lo a1 a2) (lo b1 b2) = lo b1 b2 := by
    generalize lo a1 a2 = A
    generalize lo b1 b2 = B
    unfold hi; split <;> simp
  grind
theorem meet1 {q : Rat} (h : hi (lo a1 a2) (lo b1 b2) ≤ lo (hi a1 a2) (hi b1 b2)) : (inI a1 a2 q && inI b1 b2 q) = inI (hi (lo a1 a2) (lo b1 b2)) (lo (hi a1 a2) (hi b1 b2)) q := by
  obtain ⟨e1, e2⟩ := lo_of_le h
  have h1 := lo_le (hi a1 a2) (hi b1 b2)
  have h2 := le_hi (lo a1 a2) (lo b1 b2)
  have k1 : lo (hi a1 a2) (hi b1 b2) = hi a1 a2 ∨ lo (hi a1 a2) (hi b1 b2) = hi b1 b2 := by unfold lo; split <;> simp
  have k2 : hi (lo a1 a2) (lo b1 b2) = lo a1 a2 ∨ hi (lo a1 a2) (lo b1 b2) = lo b1 b2 := by
    generalize lo a1 a2 = A
    generalize lo b1 b2 = B
    unfold hi; split <;> simp
  rw [Bool.eq_iff_iff, Bool.and_eq_true, inI_true, inI_true, inI_true, e1, e2]
  grind
theorem hull_has {q : Rat} (h : inI a1 a2 q = true ∨ inI b1 b2 q = true) : inI (hl a1 a2 b1 b2) (hh a1 a2 b1 b2) q = true := by
  rw [inI_true, inI_true] at h
  rw [inI_true, hull_ok.1, hull_ok.2]
  have h1 := hl_le (a1 := a1) (a2 := a2) (c1 := b1) (c2 := b2)
  have h2 := hh_ge (a1 := a1) (a2 := a2) (c1 := b1) (c2 := b2)
  grind
end
end Nt
end Go.Proofs.Ytnedhbidmfoegaa

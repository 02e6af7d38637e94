/- Parts of the proof: contracts of functions, each walked once, and plain laws. -/
import Derived.Test.YtdmpfhhhlhoeiaaGreatLbdD
namespace Go.Proofs.YtdmpfhhhlhoeiaaGreat
open Go.RowKit
set_option linter.unusedVariables false
namespace Nt
def smallQ (q : Rat) : Bool := decide (absQ q < ((1 : Int) : Rat))
def upS (l : List Rat) (q : Rat) (m : Nat) : List Rat := (List.range l.length).map fun j => l.getD j 0 + q * l.getD (m + 1 - j) 0
def upL (k : List Rat) : Nat → List Rat
 | 0 => [((1 : Int) : Rat)]
 | i + 1 => upS (upL k i ++ [((0 : Int) : Rat)]) (k.getD i 0) i
theorem upS_len (l : List Rat) (q : Rat) (m : Nat) : (upS l q m).length = l.length := by unfold upS; simp
theorem upL_len (k : List Rat) (i : Nat) : (upL k i).length = i + 1 := by
 induction i with
 | zero => rfl
 | succ i ih => show (upS _ _ _).length = _; rw [upS_len, List.length_append, ih]; rfl
theorem getD_app0 (l : List Rat) (j : Nat) : (l ++ [((0 : Int) : Rat)]).getD j 0 = l.getD j 0 := by
 rw [List.getD_eq_getElem?_getD, List.getD_eq_getElem?_getD]
 by_cases h : j < l.length
 ·rw [List.getElem?_append_left h]
 ·rw [List.getElem?_append_right (by omega), List.getElem?_eq_none (l := l) (by omega)]
  cases e : j - l.length with
  | zero => rfl
  | succ n => rfl
theorem upS_at (l : List Rat) (q : Rat) (m j : Nat) (h : j < l.length) : (upS l q m).getD j 0 = l.getD j 0 + q * l.getD (m + 1 - j) 0 := by
 unfold upS
 rw [List.getD_eq_getElem?_getD (l := List.map _ _), List.getElem?_map, List.getElem?_range h]
 rfl
def upK (i : Nat) : Nat := 32 * 2 ^ i - 16
theorem upK_succ (i : Nat) : upK (i + 1) = 2 * upK i + 16 ∧ 16 ≤ upK i := by
 unfold upK
 have := Nat.one_le_two_pow (n := i)
 rw [Nat.pow_succ]
 omega
theorem upK_le {i : Nat} (h : i ≤ 6) : upK i ≤ 2032 := by
 unfold upK
 have := Nat.pow_le_pow_right (n := 2) (by decide) h
 omega
theorem upK_le8 {i : Nat} (h : i ≤ 8) : upK i ≤ 8176 := by
 unfold upK
 have := Nat.pow_le_pow_right (n := 2) (by decide) h
 omega
end Nt
set_option maxHeartbeats 1000000 in
theorem k_up1 {u w : World} {x : Sl} {l : List Rat} {r v : RL} {q y : Rat} {K M m j : Nat} {b6 b7 b8 : Nat} (d : Dat u w) (hx : PolN u x l K) (hr : RatV u r q M) (hv : RatN u v y K) (h8 : u.heap[b8]? = some (.cells r.cs.toArray 41 (0, 0))) (h6 : u.heap[b6]? = some (.cells [Value.slice x.a x.n x.c].toArray 28 (0, 0))) (h7 : u.heap[b7]? = some (.cells [Value.int .i64 (m : Int)].toArray 3 (0, 0))) (hm : m + 2 = l.length) (hj : j < l.length) (hK : K ≤ 10000000) (hM : M ≤ 10000000) (hl : l.length ≤ 1000000) : Calls Tryz.prog 129 #[.int .i64 (j : Int), v.v, .pointer (some ⟨b8, 0, none⟩), .pointer (some ⟨b6, 0, none⟩), .pointer (some ⟨b7, 0, none⟩)] w (Post u w fun v u' => ∃ r : RL, v = r.v ∧ RatN u' r (y + q * l.getD (m + 1 - j) 0) (2 * K + M + 1)) := by
 have hlen := hx.len
 refine zzl (args := [.int .i64 (j : Int), v.v, .pointer (some ⟨b8, 0, none⟩), .pointer (some ⟨b6, 0, none⟩), .pointer (some ⟨b7, 0, none⟩)]) Tryz.func129 rfl Tryz.ntmps129 (rs := [.cell 7 41]) Tryz.results129 (le_b rfl) (le_b rfl) d ?_
 refine sq9 ?_
 refine zzj 6 ⟨41, v.cs⟩ ?_
 refine zzj 7 ⟨41, [.bool false, .slice none 0 0, .slice none 0 0]⟩ ?_
 refine zzb 19 [(0, .v (.int .i64 (j : Int))), (2, .v (.pointer (some ⟨b8, 0, none⟩))), (3, .v (.pointer (some ⟨b6, 0, none⟩))), (4, .v (.pointer (some ⟨b7, 0, none⟩))), (6, .adr 6 0), (7, .adr 7 0)] [(6, ⟨41, v.cs⟩), (7, ⟨41, [.bool false, .slice none 0 0, .slice none 0 0]⟩)] ?_
 refine zzc ?_
 refine zzy [0, 0, 0, 0, 8, 0, 56, 124, 252, 510, 1023, 2047] [(0, []), (1, []), (2, []), (3, []), (4, []), (5, []), (6, []), (7, []), (8, []), (9, []), (10, []), (11, [])] (by kernel_rfl) (by kernel_rfl) ?_
 refine zzh 8 (.v (v.v)) ty41 zzd ?_
 refine zyl 9 (r.cs) (var_cells h8) ty41 ?_
 refine zyk 10 x.v (var_cell1 h6) ty28 ?_
 refine zyk 11 (.int .i64 (m : Int)) (var_cell1 h7) ty3 ?_
 refine zyp 12 (x := .v (.int .i64 (IntKind.i64.wrap ((m : Int) + 1)))) (.v (.int .i64 ((m + 1 : Nat) : Int))) (eqI (by rw [IntWalk.i64_in _ (by omega)]; omega)) ?_
 refine zza 13 (.v (.int .i64 (j : Int))) ?_
 refine zyp 14 (x := .v (.int .i64 (IntKind.i64.wrap (((m + 1 : Nat) : Int) - (j : Int))))) (.v (.int .i64 (((m + 1) - j : Nat) : Int))) (eqI (by rw [IntWalk.i64_in _ (by omega)]; omega)) ?_
 have hl11 := hx.len
 obtain ⟨r11, b11, o11, hA11, hc11, hr11⟩ := pol_atN hx (i := (m + 1) - j) (by omega)
 refine zzz 15 (o11 + ((m + 1) - j) * 3) (n := x.n) (off := o11) (sz := 3) (i := (((m + 1) - j : Nat) : Int)) (by omega) hA11 (by omega) (by omega) sl28 ?_
 refine zyl 16 r11.cs hc11 ty41 ?_
 refine zzf 17 62 [r.v, r11.v] ?_
 intro w12 u12 e12 d12
 have k17 := k_ratMul d12 (hr.ext e12) (hr11.ext e12).raw (by omega) (by omega)
 with_reducible refine zPm k17 ?_
 rintro _ u15 g16 ⟨r13, rfl, h14⟩
 refine zzf 18 127 [v.v, r13.v] ?_
 intro w18 u18 e18 d18
 have k23 := k_ratAdd d18 (hv.ext (e12.trans (g16.ext.trans e18))).raw (h14.ext e18).raw (by omega) (by omega)
 with_reducible refine zPm k23 ?_
 rintro _ u21 g22 ⟨r19, rfl, h20⟩
 refine zzi ⟨41, r19.cs⟩ ty41 ?_
 refine zzb 19 [(7, .adr 7 0)] [(7, ⟨41, r19.cs⟩)] ?_
 refine zzn (ret0 [r19.v] ⟨zzq ty41 zzd, trivial⟩ fun u24 e25 => ?_)
 exact ⟨r19, rfl, RatN.more (K := (K + (M + K) + 1)) (h20.ext e25) (by omega)⟩
set_option maxHeartbeats 2000000 in
theorem k_mapUp {u w : World} {x : Sl} {l : List Rat} {r : RL} {q : Rat} {K M m : Nat} {b6 b7 b8 : Nat} (d : Dat u w) (hx : PolN u x l K) (hr : RatV u r q M) (h8 : u.heap[b8]? = some (.cells r.cs.toArray 41 (0, 0))) (h6 : u.heap[b6]? = some (.cells [Value.slice x.a x.n x.c].toArray 28 (0, 0))) (h7 : u.heap[b7]? = some (.cells [Value.int .i64 (m : Int)].toArray 3 (0, 0))) (hm : m + 2 = l.length) (hK : K ≤ 10000000) (hM : M ≤ 10000000) (hl : l.length ≤ 1000000) : Calls Tryz.prog 55 #[x.v, .func (.func 129) #[] #[.pointer (some ⟨b8, 0, none⟩), .pointer (some ⟨b6, 0, none⟩), .pointer (some ⟨b7, 0, none⟩)]] w (Post u w fun v u' => NewR u x.n (Nt.upS l q m) (2 * K + M + 1) v u') := by
 have hlen := hx.len
 have hul := Nt.upS_len l q m
 refine zzl (args := [.slice x.a x.n x.c, .func (.func 129) #[] #[.pointer (some ⟨b8, 0, none⟩), .pointer (some ⟨b6, 0, none⟩), .pointer (some ⟨b7, 0, none⟩)]]) Tryz.func55 rfl Tryz.ntmps55 (rs := [.tmp 4]) Tryz.results55 (le_b rfl) (le_b rfl) d ?_
 refine sq9 ?_
 refine zza 4 (.v (.slice none 0 0)) ?_
 refine zzb 27 [(0, .v x.v), (1, .v (.func (.func 129) #[] #[.pointer (some ⟨b8, 0, none⟩), .pointer (some ⟨b6, 0, none⟩), .pointer (some ⟨b7, 0, none⟩)]))] [] ?_
 refine sq9 ?_
 refine zza 8 (.v x.v) ?_
 refine zza 9 (.v (.int .i64 (x.n : Int))) ?_
 refine sy_make 10 (T := 28) (E := 41) (z := .agg #[.bool false, .slice none 0 0, .slice none 0 0]) (size := 3) (bytes := 56) x.n (rcs (List.replicate x.n rl0)) (by kernel_rfl) (by kernel_rfl) rfl rfl (by omega) (by unfold maxLen; omega) (made_rcs _) ?_
 refine zza 5 (.slc 10 0 x.n x.n) ?_
 refine zzb 27 [(0, .v x.v), (1, .v (.func (.func 129) #[] #[.pointer (some ⟨b8, 0, none⟩), .pointer (some ⟨b6, 0, none⟩), .pointer (some ⟨b7, 0, none⟩)])), (5, .slc 10 0 x.n x.n)] [(10, ⟨41, rcs (List.replicate x.n rl0)⟩)] ?_
 refine zzc ?_
 refine sq9 ?_
 refine zza 11 (.v x.v) ?_
 refine zza 12 (.v (.int .i64 (x.n : Int))) ?_
 refine zza 13 (.v (.int .i64 0)) ?_
 refine zzb 27 [(1, .v (.func (.func 129) #[] #[.pointer (some ⟨b8, 0, none⟩), .pointer (some ⟨b6, 0, none⟩), .pointer (some ⟨b7, 0, none⟩)])), (5, .slc 10 0 x.n x.n), (11, .v x.v), (12, .v (.int .i64 (x.n : Int))), (13, .v (.int .i64 0))] [(10, ⟨41, rcs (List.replicate x.n rl0)⟩)] ?_
 refine zzs ?_
 refine zym (I := fun m11 S' u' => ∃ (i : Nat) (L : List RL), (m11 = x.n - i) ∧ (i ≤ x.n) ∧ (L.length = x.n) ∧ (S' = St.of 27 [(1, .v (.func (.func 129) #[] #[.pointer (some ⟨b8, 0, none⟩), .pointer (some ⟨b6, 0, none⟩), .pointer (some ⟨b7, 0, none⟩)])), (5, .slc 10 0 x.n x.n), (11, .v (.slice x.a x.n x.c)), (12, .v (.int .i64 (x.n : Int))), (13, .v (.int .i64 (i : Int)))] [(10, ⟨41, rcs L⟩)]) ∧ (Ext u u') ∧ (RatsN u' (L.take i) ((Nt.upS l q m).take i) (2 * K + M + 1))) (fun m S u1 u2 e h => by obtain ⟨i, L, hm, p0, p1, hS, hE, f0⟩ := h; exact ⟨i, L, hm, p0, p1, hS, hE.trans e, f0.ext e⟩) _ (T := St.of 27 [(1, .v (.func (.func 129) #[] #[.pointer (some ⟨b8, 0, none⟩), .pointer (some ⟨b6, 0, none⟩), .pointer (some ⟨b7, 0, none⟩)])), (5, .slc 10 0 x.n x.n), (11, .v (.slice x.a x.n x.c)), (12, .v (.int .i64 (x.n : Int))), (13, .v (.int .i64 0))] [(10, ⟨41, rcs (List.replicate x.n rl0)⟩)]) (by exact zzu _ _ _) ⟨0, List.replicate x.n rl0, rfl, by omega, by simp, rfl, (Ext.refl _), RatsN.tnil _ _ _ _⟩ ?_
 rintro m11 _ u11 ⟨i, L, hm11, hi, hL, rfl, e11, hR⟩
 refine sq9 ?_
 refine zza 14 (.v (.bool (decide ((i : Int) < (x.n : Int))))) ?_
 refine zzb 27 [(1, .v (.func (.func 129) #[] #[.pointer (some ⟨b8, 0, none⟩), .pointer (some ⟨b6, 0, none⟩), .pointer (some ⟨b7, 0, none⟩)])), (5, .slc 10 0 x.n x.n), (11, .v x.v), (12, .v (.int .i64 (x.n : Int))), (13, .v (.int .i64 (i : Int))), (14, .v (.bool (decide ((i : Int) < (x.n : Int)))))] [(10, ⟨41, rcs L⟩)] ?_
 refine zzc ?_
 refine zzt (b := decide ((i : Int) < (x.n : Int))) (by kernel_rfl) (fun hb12 => ?_) (fun hb12 => ?_)
 ·replace hb12 : (decide ((i : Int) < (x.n : Int))) = true := hb12
  have qhb12 := of_decide_eq_true hb12
  refine zzr (zzo ?_)
  refine zzc ?_
  refine zzs ?_
  refine sq9 ?_
  refine zza 15 (.v (.int .i64 (i : Int))) ?_
  have hl13 := (hx.ext e11).len
  obtain ⟨r13, b13, o13, hA13, hc13, hr13⟩ := pol_atN (hx.ext e11) (i := i) (by omega)
  refine zzz 16 (o13 + i * 3) (n := x.n) (off := o13) (sz := 3) (i := (i : Int)) (by omega) hA13 (by omega) (by omega) sl28 ?_
  refine zyl 17 r13.cs hc13 ty41 ?_
  refine zzj 7 ⟨41, [.bool false, .slice none 0 0, .slice none 0 0]⟩ ?_
  refine zza 6 (.v (.int .i64 (i : Int))) ?_
  refine zzi ⟨41, r13.cs⟩ ty41 ?_
  refine zzb 27 [(1, .v (.func (.func 129) #[] #[.pointer (some ⟨b8, 0, none⟩), .pointer (some ⟨b6, 0, none⟩), .pointer (some ⟨b7, 0, none⟩)])), (5, .slc 10 0 x.n x.n), (6, .v (.int .i64 (i : Int))), (7, .adr 7 0), (11, .v x.v), (12, .v (.int .i64 (x.n : Int))), (13, .v (.int .i64 (i : Int)))] [(7, ⟨41, r13.cs⟩), (10, ⟨41, rcs L⟩)] ?_
  refine zze ?_
  refine zza 18 (.slc 10 0 x.n x.n) ?_
  refine zza 19 (.v (.int .i64 (i : Int))) ?_
  refine zza 20 (.v (.func (.func 129) #[] #[.pointer (some ⟨b8, 0, none⟩), .pointer (some ⟨b6, 0, none⟩), .pointer (some ⟨b7, 0, none⟩)])) ?_
  refine zza 21 (.v (.int .i64 (i : Int))) ?_
  refine zzh 22 (.v (r13.v)) ty41 zzd ?_
  refine zzf 23 129 [.int .i64 (i : Int), r13.v, .pointer (some ⟨b8, 0, none⟩), .pointer (some ⟨b6, 0, none⟩), .pointer (some ⟨b7, 0, none⟩)] ?_
  intro w14 u14 e14 d14
  have k19 := k_up1 (j := i) d14 (hx.ext (e11.trans e14)) (hr.ext (e11.trans e14)) (hr13.ext e14) ((e11.trans e14).cells h8) ((e11.trans e14).cells h6) ((e11.trans e14).cells h7) hm (by omega) (by omega) (by omega) (by omega)
  with_reducible refine zPm k19 ?_
  rintro _ u17 g18 ⟨r15, rfl, h16⟩
  refine zyv 24 (off' := i * 3) (n := x.n) (off := 0) (sz := 3) (i := (i : Int)) sl28 (by omega) (by omega) (by omega) ?_
  refine zyu (V := ⟨41, rcs L⟩) (off := i * 3) (rcs ((L).set i r15)) ty41 (by rw [zyx]; first|omega|(simp;omega)) (zyw (r := r15) (i := i) (by first|omega|(simp;omega)) rfl) ?_
  refine zzw ?_
  refine zzo ?_
  refine zze ?_
  refine zyp 25 (x := .v (.int .i64 (IntKind.i64.wrap ((i : Int) + 1)))) (.v (.int .i64 ((i + 1 : Nat) : Int))) (eqI (by rw [IntWalk.i64_in _ (by omega)]; omega)) ?_
  refine zza 13 (.v (.int .i64 ((i + 1 : Nat) : Int))) ?_
  refine zzw ?_
  have ht20 : i < (Nt.upS l q m).length := by rw [hul]; omega
  refine ⟨_, ?_, St.of 27 [(1, .v (.func (.func 129) #[] #[.pointer (some ⟨b8, 0, none⟩), .pointer (some ⟨b6, 0, none⟩), .pointer (some ⟨b7, 0, none⟩)])), (5, .slc 10 0 x.n x.n), (11, .v (.slice x.a x.n x.c)), (12, .v (.int .i64 (x.n : Int))), (13, .v (.int .i64 ((i + 1 : Nat) : Int)))] [(10, ⟨41, rcs ((L).set i r15)⟩)], by exact zzu _ _ _, i + 1, (L).set i r15, rfl, by omega, by simpa using hL, rfl, (e11.trans (e14.trans g18.ext)), RatsN.tstep (hR.ext (e14.trans g18.ext)) (by omega) ht20 (RatN.more (K := (2 * K + M + 1)) h16 (by omega)) (by rw [← Nt.upS_at l q m i (by omega)])⟩
  omega
 ·replace hb12 : (decide ((i : Int) < (x.n : Int))) = false := hb12
  have qhb12 := of_decide_eq_false hb12
  refine zyb ?_
  refine zzo ?_
  refine zzc ?_
  refine zyo (r := 5) (t := 10) [5, 10] (by repeat first | exact noAt_of | refine zyc ?_ | refine zye ?_ | refine zyd ?_ | refine zzx ?_ | refine zya ?_) (by kernel_rfl) (by rfl) (by rfl) (by kernel_rfl) (fun b21 u22 e23 hb24 hh25 => ?_)
  have hp26 : PolN u22 ⟨some ⟨b21, 0, none⟩, x.n, x.n⟩ (Nt.upS l q m) (2 * K + M + 1) := pol_data1 hh25 (by unfold maxLen; omega) (RatsN.tdone (hR.ext e23) (by omega) (by rw [hul]; omega)) (by omega)
  refine zze ?_
  refine zza 26 (.v (.slice (some ⟨b21, 0, none⟩) x.n x.n)) ?_
  refine zza 4 (.v (.slice (some ⟨b21, 0, none⟩) x.n x.n)) ?_
  refine zzb 27 [(4, .v (.slice (some ⟨b21, 0, none⟩) x.n x.n))] [] ?_
  refine zzn (ret0 [.slice (some ⟨b21, 0, none⟩) x.n x.n] ⟨zzp, trivial⟩ fun u27 e28 => ?_)
  exact ⟨b21, L, rfl, hb24, e28.cells hh25, by omega, (RatsN.tdone (hR.ext (e23.trans e28)) (by omega) (by rw [hul]; omega))⟩
theorem k_small {u w : World} {r : RL} {q : Rat} {K : Nat} (d : Dat u w) (hr : RatV u r q K) (hK : K ≤ 10000000) : Calls Tryz.prog 59 #[r.v] w (Post u w fun v u' => v = .bool (Nt.smallQ q)) := by
 refine zzl (args := [r.v]) Tryz.func59 rfl Tryz.ntmps59 (rs := [.tmp 2]) Tryz.results59 (le_b rfl) (le_b rfl) d ?_
 refine sq9 ?_
 refine zzj 1 ⟨41, r.cs⟩ ?_
 refine zza 2 (.v (.bool false)) ?_
 refine zzb 8 [(1, .adr 1 0)] [(1, ⟨41, r.cs⟩)] ?_
 refine sq9 ?_
 refine zzh 3 (.v (r.v)) ty41 zzd ?_
 refine zzf 4 139 [r.v] ?_
 intro w11 u11 e11 d11
 have k16 := k_ratAbs d11 (hr.ext e11) (by omega)
 with_reducible refine zPm k16 ?_
 rintro _ u14 g15 ⟨r12, rfl, h13⟩
 refine zzf 5 61 [.int .i64 1] ?_
 intro w17 u17 e17 d17
 have k22 := k_ratOf d17 (z := 1) (by omega) (by omega)
 with_reducible refine zPm k22 ?_
 rintro _ u20 g21 ⟨r18, rfl, h19⟩
 refine zzf 6 138 [r12.v, r18.v] ?_
 intro w23 u23 e23 d23
 have k26 := k_ratCompare d23 (h13.ext (e17.trans (g21.ext.trans e23))).raw (h19.ext e23).raw (by omega) (by omega)
 with_reducible refine zPm k26 ?_
 rintro _ u24 g25 rfl
 refine zza 7 (.v (.bool (decide ((Nt.cmpQ (Nt.absQ q) ((1 : Int) : Rat)) < 0)))) ?_
 refine zza 2 (.v (.bool (decide ((Nt.cmpQ (Nt.absQ q) ((1 : Int) : Rat)) < 0)))) ?_
 refine zzb 8 [(2, .v (.bool (decide ((Nt.cmpQ (Nt.absQ q) ((1 : Int) : Rat)) < 0))))] [] ?_
 refine zzn (ret0 [.bool (decide ((Nt.cmpQ (Nt.absQ q) ((1 : Int) : Rat)) < 0))] ⟨zzp, trivial⟩ fun u27 e28 => ?_)
 show Value.bool (decide (Nt.cmpQ _ _ < 0)) = Value.bool (Nt.smallQ q)
 unfold Nt.smallQ
 rw [← Nt.cmpQ_lt]
theorem k_rsmall {u w : World} {r : RL} {q : Rat} {K : Nat} (d : Dat u w) (hr : RatV u r q K) (hK : K ≤ 10000000) : Calls Tryz.prog 155 #[r.v] w (Post u w fun v u' => v = .bool (Nt.smallQ q)) := by
 refine zzl (args := [r.v]) Tryz.func155 rfl Tryz.ntmps155 (rs := [.tmp 2]) Tryz.results155 (le_b rfl) (le_b rfl) d ?_
 refine sq9 ?_
 refine zzj 1 ⟨41, r.cs⟩ ?_
 refine zza 2 (.v (.bool false)) ?_
 refine zzb 7 [(1, .adr 1 0)] [(1, ⟨41, r.cs⟩)] ?_
 refine sq9 ?_
 refine zzh 3 (.v (r.v)) ty41 zzd ?_
 refine zzf 4 188 [r.v] ?_
 intro w11 u11 e11 d11
 have k16 := k_rqAbs d11 (hr.ext e11) (by omega)
 with_reducible refine zPm k16 ?_
 rintro _ u14 g15 ⟨r12, rfl, h13⟩
 refine zzf 5 13 [.int .i64 1] ?_
 intro w17 u17 e17 d17
 have k22 := k_rqOf d17 (z := 1) (by omega) (by omega)
 with_reducible refine zPm k22 ?_
 rintro _ u20 g21 ⟨r18, rfl, h19⟩
 refine zzf 6 187 [r12.v, r18.v] ?_
 intro w23 u23 e23 d23
 have k26 := k_rqLess d23 (h13.ext (e17.trans (g21.ext.trans e23))).raw (h19.ext e23).raw (by omega) (by omega)
 with_reducible refine zPm k26 ?_
 rintro _ u24 g25 rfl
 refine zza 2 (.v (.bool (decide ((Nt.absQ q) < ((1 : Int) : Rat))))) ?_
 refine zzb 7 [(2, .v (.bool (decide ((Nt.absQ q) < ((1 : Int) : Rat)))))] [] ?_
 refine zzn (ret0 [.bool (decide ((Nt.absQ q) < ((1 : Int) : Rat)))] ⟨zzp, trivial⟩ fun u27 e28 => ?_)
 rfl
def UpV (l : List Rat) (v : Value) (u' : World) : Prop := (∃ i, i < l.length ∧ Nt.smallQ (l.getD i 0) = false ∧ v = .tuple #[.slice none 0 0, .int .i64 14]) ∨ ((∀ i, i < l.length → Nt.smallQ (l.getD i 0) = true) ∧ ∃ y : Sl, v = .tuple #[y.v, .int .i64 0] ∧ PolN u' y (Nt.trimQ (Nt.upL l l.length)) (Nt.upK l.length))
set_option maxHeartbeats 4000000 in
theorem k_stepUp {u w : World} {x : Sl} {l : List Rat} {M : Nat} (d : Dat u w) (hx : PolV u x l M) (hl : l.length ≤ 8) (hM : M ≤ 4) : Calls Tryz.prog 52 #[x.v] w (Post u w (UpV l)) := by
 have hlen := hx.len
 refine zzl (args := [.slice x.a x.n x.c]) Tryz.func52 rfl Tryz.ntmps52 (rs := [.tmp 2, .tmp 3]) Tryz.results52 (le_b rfl) (le_b rfl) d ?_
 refine sq9 ?_
 refine zza 2 (.v (.slice none 0 0)) ?_
 refine zza 3 (.v (.int .i64 0)) ?_
 refine zzb 41 [(0, .v x.v)] [] ?_
 refine zzc ?_
 refine sq9 ?_
 refine zza 9 (.v x.v) ?_
 refine zza 10 (.v (.int .i64 (x.n : Int))) ?_
 refine zza 11 (.v (.bool (decide ((48 : Int) < (x.n : Int))))) ?_
 refine zzb 41 [(0, .v x.v), (11, .v (.bool (decide ((48 : Int) < (x.n : Int)))))] [] ?_
 refine zzt (b := decide ((48 : Int) < (x.n : Int))) (by kernel_rfl) (fun hb => ?_) (fun hb => ?_)
 ·exact absurd hb (by rw [show (decide ((48 : Int) < (x.n : Int))) = false from decide_eq_false (by omega)]; decide)
 ·clear hb
  refine zzr (zzo ?_)
  refine zzc ?_
  refine sq9 ?_
  refine zza 12 (.v x.v) ?_
  refine zza 13 (.v (.int .i64 (x.n : Int))) ?_
  refine zza 14 (.v (.int .i64 0)) ?_
  refine zzb 41 [(0, .v x.v), (12, .v x.v), (13, .v (.int .i64 (x.n : Int))), (14, .v (.int .i64 0))] [] ?_
  refine zzs ?_
  refine zym (I := fun m11 S' u' => ∃ (i : Nat), (m11 = l.length - i) ∧ (i ≤ l.length) ∧ (∀ j, j < i → Nt.smallQ (l.getD j 0) = true) ∧ (S' = St.of 41 [(0, .v (.slice x.a x.n x.c)), (12, .v (.slice x.a x.n x.c)), (13, .v (.int .i64 (x.n : Int))), (14, .v (.int .i64 (i : Int)))] []) ∧ (Ext u u')) (fun m S u1 u2 e h => by obtain ⟨i, hm, p0, p1, hS, hE⟩ := h; exact ⟨i, hm, p0, p1, hS, hE.trans e⟩) _ (T := St.of 41 [(0, .v (.slice x.a x.n x.c)), (12, .v (.slice x.a x.n x.c)), (13, .v (.int .i64 (x.n : Int))), (14, .v (.int .i64 0))] []) (by exact zzu _ _ _) ⟨0, rfl, Nat.zero_le _, fun j hj => absurd hj (Nat.not_lt_zero j), rfl, (Ext.refl _)⟩ ?_
  rintro m11 _ u11 ⟨i, hm11, hi, hz, rfl, e11⟩
  refine sq9 ?_
  refine zza 15 (.v (.bool (decide ((i : Int) < (x.n : Int))))) ?_
  refine zzb 41 [(0, .v x.v), (12, .v x.v), (13, .v (.int .i64 (x.n : Int))), (14, .v (.int .i64 (i : Int))), (15, .v (.bool (decide ((i : Int) < (x.n : Int)))))] [] ?_
  refine zzc ?_
  refine zzt (b := decide ((i : Int) < (x.n : Int))) (by kernel_rfl) (fun hb12 => ?_) (fun hb12 => ?_)
  ·replace hb12 : (decide ((i : Int) < (x.n : Int))) = true := hb12
   have qhb12 := of_decide_eq_true hb12
   refine zzr (zzo ?_)
   refine zzc ?_
   refine zzs ?_
   refine sq9 ?_
   have hl13 := (hx.ext e11).len
   obtain ⟨r13, b13, o13, hA13, hc13, hr13⟩ := pol_at (hx.ext e11) (i := i) (by omega)
   refine zzz 16 (o13 + i * 3) (n := x.n) (off := o13) (sz := 3) (i := (i : Int)) (by omega) hA13 (by omega) (by omega) sl28 ?_
   refine zyl 17 r13.cs hc13 ty41 ?_
   refine zzj 5 ⟨41, [.bool false, .slice none 0 0, .slice none 0 0]⟩ ?_
   refine zzi ⟨41, r13.cs⟩ ty41 ?_
   refine zzb 41 [(0, .v x.v), (5, .adr 5 0), (12, .v x.v), (13, .v (.int .i64 (x.n : Int))), (14, .v (.int .i64 (i : Int)))] [(5, ⟨41, r13.cs⟩)] ?_
   refine sq9 ?_
   refine zzh 18 (.v (r13.v)) ty41 zzd ?_
   refine zzf 19 59 [r13.v] ?_
   intro w14 u14 e14 d14
   have k17 := k_small d14 (hr13.ext e14) (by omega)
   with_reducible refine zPm k17 ?_
   rintro _ u15 g16 rfl
   refine zza 20 (.v (.bool (!(Nt.smallQ (l.getD i 0))))) ?_
   refine zzb 41 [(0, .v x.v), (12, .v x.v), (13, .v (.int .i64 (x.n : Int))), (14, .v (.int .i64 (i : Int))), (20, .v (.bool (!(Nt.smallQ (l.getD i 0)))))] [] ?_
   refine zzt (b := !(Nt.smallQ (l.getD i 0))) (by kernel_rfl) (fun hb18 => ?_) (fun hb18 => ?_)
   ·replace hb18 : (!(Nt.smallQ (l.getD i 0))) = true := hb18
    refine sq9 ?_
    refine zza 2 (.v (.slice none 0 0)) ?_
    refine zza 3 (.v (.int .i64 14)) ?_
    refine zzb 41 [(2, .v (.slice none 0 0)), (3, .v (.int .i64 14))] [] ?_
    refine zzn (zyt (zzv (zys (zyt (zzv (ret0 [.slice none 0 0, .int .i64 14] ⟨zzp, zzp, trivial⟩ fun u19 e20 => ?_))))))
    exact .inl ⟨i, by omega, by simpa using hb18, rfl⟩
   ·replace hb18 : (!(Nt.smallQ (l.getD i 0))) = false := hb18
    refine zzr (zzo ?_)
    refine zze ?_
    refine zyp 21 (x := .v (.int .i64 (IntKind.i64.wrap ((i : Int) + 1)))) (.v (.int .i64 ((i + 1 : Nat) : Int))) (eqI (by rw [IntWalk.i64_in _ (by omega)]; omega)) ?_
    refine zza 14 (.v (.int .i64 ((i + 1 : Nat) : Int))) ?_
    refine zzw ?_
    refine ⟨_, ?_, St.of 41 [(0, .v (.slice x.a x.n x.c)), (12, .v (.slice x.a x.n x.c)), (13, .v (.int .i64 (x.n : Int))), (14, .v (.int .i64 ((i + 1 : Nat) : Int)))] [], by exact zzu _ _ _, i + 1, rfl, by omega, (fun j hj => by by_cases e : j = i; (rw [e]; simpa using hb18); exact hz j (by omega)), rfl, (e11.trans (e14.trans g16.ext))⟩
    omega
  ·replace hb12 : (decide ((i : Int) < (x.n : Int))) = false := hb12
   have qhb12 := of_decide_eq_false hb12
   refine zyb ?_
   refine zzo ?_
   refine sq9 ?_
   refine zzf 22 61 [.int .i64 1] ?_
   intro w21 u21 e21 d21
   have k26 := k_ratOf d21 (z := 1) (by omega) (by omega)
   with_reducible refine zPm k26 ?_
   rintro _ u24 g25 ⟨r22, rfl, h23⟩
   refine sy_data 23 ⟨41, r22.cs⟩ 1 (fun b27 u28 e29 h30 => ?_)
   have hp31 : PolN u28 (⟨some ⟨b27, 0, none⟩, 1, 1⟩ : Sl) [((1 : Int) : Rat)] 2 := pol_lit (L := [r22]) h30 (rats1 (h23.ext e29)) rfl (by decide)
   refine zzj 6 ⟨28, [.slice none 0 0]⟩ ?_
   refine zzi ⟨28, [.slice (some ⟨b27, 0, none⟩) 1 1]⟩ ty28 ?_
   refine zzb 41 [(0, .v x.v), (6, .adr 6 0)] [(6, ⟨28, [.slice (some ⟨b27, 0, none⟩) 1 1]⟩)] ?_
   refine zzc ?_
   refine sq9 ?_
   refine zza 24 (.v x.v) ?_
   refine zza 25 (.v (.int .i64 (x.n : Int))) ?_
   refine zza 26 (.v (.int .i64 0)) ?_
   refine zzb 41 [(6, .adr 6 0), (24, .v x.v), (25, .v (.int .i64 (x.n : Int))), (26, .v (.int .i64 0))] [(6, ⟨28, [.slice (some ⟨b27, 0, none⟩) 1 1]⟩)] ?_
   refine zzs ?_
   have hzs : ∀ j, j < l.length → Nt.smallQ (l.getD j 0) = true := fun j hj => hz j (by omega)
   refine zym (I := fun m32 S' u' => ∃ (i : Nat) (c : Sl), (m32 = l.length - i) ∧ (i ≤ l.length) ∧ (c.c = c.n) ∧ (S' = St.of 41 [(6, .adr 6 0), (24, .v (.slice x.a x.n x.c)), (25, .v (.int .i64 (x.n : Int))), (26, .v (.int .i64 (i : Int)))] [(6, ⟨28, [.slice c.a c.n c.c]⟩)]) ∧ (Ext u28 u') ∧ (PolN u' c (Nt.upL l i) (Nt.upK i))) (fun m S u1 u2 e h => by obtain ⟨i, c, hm, p0, p1, hS, hE, f0⟩ := h; exact ⟨i, c, hm, p0, p1, hS, hE.trans e, f0.ext e⟩) _ (T := St.of 41 [(6, .adr 6 0), (24, .v (.slice x.a x.n x.c)), (25, .v (.int .i64 (x.n : Int))), (26, .v (.int .i64 0))] [(6, ⟨28, [.slice (some ⟨b27, 0, none⟩) 1 1]⟩)]) (by exact zzu _ _ _) ⟨0, (⟨some ⟨b27, 0, none⟩, 1, 1⟩ : Sl), rfl, Nat.zero_le _, rfl, rfl, (Ext.refl _), (PolN.more hp31 (by decide))⟩ ?_
   rintro m32 _ u32 ⟨i, c, hm32, hi, hcc, rfl, e32, hC⟩
   have hcl := hC.len
   have hul := Nt.upL_len l i
   have huk := Nt.upK_succ i
   have huk2 := Nt.upK_le8 (show i ≤ 8 by omega)
   refine sq9 ?_
   refine zza 27 (.v (.bool (decide ((i : Int) < (x.n : Int))))) ?_
   refine zzb 41 [(6, .adr 6 0), (24, .v x.v), (25, .v (.int .i64 (x.n : Int))), (26, .v (.int .i64 (i : Int))), (27, .v (.bool (decide ((i : Int) < (x.n : Int)))))] [(6, ⟨28, [c.v]⟩)] ?_
   refine zzc ?_
   refine zzt (b := decide ((i : Int) < (x.n : Int))) (by kernel_rfl) (fun hb33 => ?_) (fun hb33 => ?_)
   ·replace hb33 : (decide ((i : Int) < (x.n : Int))) = true := hb33
    have qhb33 := of_decide_eq_true hb33
    refine zzr (zzo ?_)
    refine zzc ?_
    refine zzs ?_
    refine sq9 ?_
    refine zza 28 (.v (.int .i64 (i : Int))) ?_
    have hl34 := (hx.ext (e11.trans (e21.trans (g25.ext.trans (e29.trans e32))))).len
    obtain ⟨r34, b34, o34, hA34, hc34, hr34⟩ := pol_at (hx.ext (e11.trans (e21.trans (g25.ext.trans (e29.trans e32))))) (i := i) (by omega)
    refine zzz 29 (o34 + i * 3) (n := x.n) (off := o34) (sz := 3) (i := (i : Int)) (by omega) hA34 (by omega) (by omega) sl28 ?_
    refine zyl 30 r34.cs hc34 ty41 ?_
    refine zzj 7 ⟨3, [.int .i64 0]⟩ ?_
    refine zzj 8 ⟨41, [.bool false, .slice none 0 0, .slice none 0 0]⟩ ?_
    refine zzi ⟨3, [.int .i64 (i : Int)]⟩ ty3 ?_
    refine zzi ⟨41, r34.cs⟩ ty41 ?_
    refine zzb 41 [(6, .adr 6 0), (7, .adr 7 0), (8, .adr 8 0), (24, .v x.v), (25, .v (.int .i64 (x.n : Int))), (26, .v (.int .i64 (i : Int)))] [(6, ⟨28, [c.v]⟩), (7, ⟨3, [.int .i64 (i : Int)]⟩), (8, ⟨41, r34.cs⟩)] ?_
    refine zzc ?_
    refine zzy [0, 0, 2, 7, 15] [(0, []), (1, []), (2, []), (3, []), (4, [])] (by kernel_rfl) (by kernel_rfl) ?_
    refine zzh 31 (.v c.v) ty28 zzk ?_
    refine zzf 32 61 [.int .i64 0] ?_
    intro w35 u35 e35 d35
    have k40 := k_ratOf d35 (z := 0) (by omega) (by omega)
    with_reducible refine zPm k40 ?_
    rintro _ u38 g39 ⟨r36, rfl, h37⟩
    refine sy_lit 33 ⟨41, r36.cs⟩ 1 ?_
    obtain ⟨Lx41, hS41, hR41⟩ := id (hC.ext (e35.trans g39.ext))
    obtain ⟨bx41, ox41, hA41, hC41⟩ := hS41.2.2.2 (by omega)
    refine sy_appG 34 (T := 28) (E := 41) (z := .agg #[.bool false, .slice none 0 0, .slice none 0 0]) (size := 3) (bytes := 56) (m := 1) (n := c.n) (cap := c.c) (t2 := 33) (b := bx41) (off := ox41) (cs0 := rcs Lx41) r36.cs hA41 (by kernel_rfl) (by kernel_rfl) (by kernel_rfl) (by decide) rfl (rl_one r36) (by decide) (by unfold maxLen; omega) (by omega) (by omega) hS41.1 (fun j v hv => by have h9 := hC41 j (List.getElem?_eq_some_iff.1 hv).1; rw [h9]; exact hv) ?_
    intro g41 c41 cs41 u41 e41 hg41 h141 h241 h341 h441 hh41
    have hp42 : PolN u41 ⟨some ⟨g41, 0, none⟩, c.n + 1, c41⟩ ((Nt.upL l i) ++ [((0 : Int) : Rat)]) (Nt.upK i) := pol_data (L := Lx41 ++ [r36]) hh41 (by rw [h441, rcs_app]; rfl) h341 h141 h241 (RatsN.snoc (hR41.ext e41) (RatN.more (K := 2) (h37.ext e41) (by omega)))
    refine zzi ⟨28, [.slice (some ⟨g41, 0, none⟩) (c.n + 1) c41]⟩ ty28 ?_
    refine zzb 41 [(6, .adr 6 0), (7, .adr 7 0), (8, .adr 8 0), (24, .v x.v), (25, .v (.int .i64 (x.n : Int))), (26, .v (.int .i64 (i : Int)))] [(6, ⟨28, [.slice (some ⟨g41, 0, none⟩) (c.n + 1) c41]⟩), (7, ⟨3, [.int .i64 (i : Int)]⟩), (8, ⟨41, r34.cs⟩)] ?_
    refine sw_pubA (r := 8) (t := 8) [8] (by repeat first | exact noAt_of | refine zyc ?_ | refine zye ?_ | refine zyd ?_ | refine zzx ?_ | refine zya ?_) (by kernel_rfl) (by rfl) (by rfl) (by kernel_rfl) (fun b43 u44 e45 hb46 hv47 hh48 => ?_)
    refine sw_pubA (r := 7) (t := 7) [7] (by repeat first | exact noAt_of | refine zyc ?_ | refine zye ?_ | refine zyd ?_ | refine zzx ?_ | refine zya ?_) (by kernel_rfl) (by rfl) (by rfl) (by kernel_rfl) (fun b49 u50 e51 hb52 hv53 hh54 => ?_)
    refine sw_pubA (r := 6) (t := 6) [6] (by repeat first | exact noAt_of | refine zyc ?_ | refine zye ?_ | refine zyd ?_ | refine zzx ?_ | refine zya ?_) (by kernel_rfl) (by rfl) (by rfl) (by kernel_rfl) (fun b55 u56 e57 hb58 hv59 hh60 => ?_)
    refine sw_cut 3 ?_
    refine zyk 35 (.slice (some ⟨g41, 0, none⟩) (c.n + 1) c41) (var_cell1 hh60) ty28 ?_
    refine sy_fun 36 [.pointer (some ⟨b43, 0, none⟩), .pointer (some ⟨b55, 0, none⟩), .pointer (some ⟨b49, 0, none⟩)] ?_
    refine zzf 37 55 [.slice (some ⟨g41, 0, none⟩) (c.n + 1) c41, .func (.func 129) #[] #[.pointer (some ⟨b43, 0, none⟩), .pointer (some ⟨b55, 0, none⟩), .pointer (some ⟨b49, 0, none⟩)]] ?_
    intro w61 u61 e61 d61
    have k70 := k_mapUp (m := i) d61 (hp42.ext (e45.trans (e51.trans (e57.trans e61)))) (hr34.ext (e35.trans (g39.ext.trans (e41.trans (e45.trans (e51.trans (e57.trans e61))))))) ((e51.trans (e57.trans e61)).cells hh48) (e61.cells hh60) ((e57.trans e61).cells hh54) (by simp [Nt.upL_len]) (by omega) (by omega) (by simp [Nt.upL_len]; omega)
    with_reducible refine zPm k70 ?_
    rintro _ u68 g69 ⟨b62, L63, rfl, hb64, hh65, hL66, hR67⟩
    refine zzw ?_
    refine sl_adoptA (r := 6) (k := 6) (by rfl) ((e61.trans g69.ext).cells hh60) hb58 (by kernel_rfl) (fun u71 eB72 => ?_)
    have hp73 : PolN u71 (⟨some ⟨b62, 0, none⟩, c.n + 1, c.n + 1⟩ : Sl) (Nt.upS ((Nt.upL l i) ++ [((0 : Int) : Rat)]) (l.getD i 0) i) (2 * (Nt.upK i) + M + 1) := newR_adopt hb64 ((Ext.refl _).cells hh65) hL66 (hR67.ext (Ext.refl _)) (by unfold maxLen; omega) (e61.cells hh60) ((e61.trans g69.ext).cells hh60) (by simp) eB72
    refine sl_sym ?_
    refine zzi ⟨28, [.slice (some ⟨b62, 0, none⟩) (c.n + 1) (c.n + 1)]⟩ ty28 ?_
    refine zzw ?_
    refine zzo ?_
    refine zze ?_
    refine zyp 38 (x := .v (.int .i64 (IntKind.i64.wrap ((i : Int) + 1)))) (.v (.int .i64 ((i + 1 : Nat) : Int))) (eqI (by rw [IntWalk.i64_in _ (by omega)]; omega)) ?_
    refine zza 26 (.v (.int .i64 ((i + 1 : Nat) : Int))) ?_
    refine zzw ?_
    refine ⟨_, ?_, St.of 41 [(6, .adr 6 0), (24, .v (.slice x.a x.n x.c)), (25, .v (.int .i64 (x.n : Int))), (26, .v (.int .i64 ((i + 1 : Nat) : Int)))] [(6, ⟨28, [.slice (some ⟨b62, 0, none⟩) (c.n + 1) (c.n + 1)]⟩)], by exact zzu _ _ _, i + 1, (⟨some ⟨b62, 0, none⟩, c.n + 1, c.n + 1⟩ : Sl), rfl, by omega, rfl, rfl, (e32.trans (e35.trans (g39.ext.trans (e41.trans (e45.trans (e51.trans (ExtB.old2 eB72 (e57.trans (e61.trans g69.ext)) hv59))))))), (show PolN _ _ (Nt.upL l (i + 1)) _ from PolN.more (K := (2 * (Nt.upK i) + M + 1)) hp73 (by omega))⟩
    omega
   ·replace hb33 : (decide ((i : Int) < (x.n : Int))) = false := hb33
    have qhb33 := of_decide_eq_false hb33
    refine zyb ?_
    refine zzo ?_
    refine sq9 ?_
    refine zzh 39 (.v c.v) ty28 zzk ?_
    refine zzf 40 53 [c.v] ?_
    intro w74 u74 e74 d74
    have k79 := k_poTrim d74 (hC.ext e74).raw (by omega) (by first|omega|(simp;omega) | (refine Nat.le_trans (Nt.zzg _) ?_; first|omega|(simp;omega)) | (refine Nat.le_trans (Nt.zzg _) ?_; simp only [List.length_map]; refine Nat.le_trans (Nt.zzg _) ?_; first|omega|(simp;omega)))
    with_reducible refine zPm k79 ?_
    rintro _ u77 g78 ⟨y75, rfl, h76⟩
    have hly75 := h76.len
    refine zza 2 (.v y75.v) ?_
    refine zza 3 (.v (.int .i64 0)) ?_
    refine zzb 41 [(2, .v y75.v), (3, .v (.int .i64 0))] [] ?_
    refine zzn (ret0 [.slice y75.a y75.n y75.c, .int .i64 0] ⟨zzp, zzp, trivial⟩ fun u80 e81 => ?_)
    have hi9 : i = l.length := by omega
    refine .inr ⟨hzs, y75, rfl, ?_⟩
    have h9 := (h76.ext e81)
    rw [hi9] at h9
    exact h9
namespace Nt
def divS (l : List Rat) (q : Rat) : List Rat := l.map (· / q)
def dnS (l : List Rat) (m : Nat) : List Rat := (List.range m).map fun j => (l.getD j 0 - l.getD m 0 * l.getD (m - j) 0) / (((1 : Int) : Rat) - l.getD m 0 * l.getD m 0)
theorem small_iff {q : Rat} : smallQ q = true ↔ -1 < q ∧ q < 1 := by
 have e1 : ((1 : Int) : Rat) = 1 := rfl
 unfold smallQ absQ
 rw [e1]
 split <;> rw [decide_eq_true_iff] <;> grind
structure Down (l : List Rat) (D : Nat → List Rat) (n S : Nat) : Prop where
 len : l.length = n + 1
 nz : l.getD 0 0 ≠ 0
 top : D n = divS l (l.getD 0 0)
 dlen : ∀ m, m ≤ n → (D m).length = m + 1
 step : ∀ m, m < n → D m = dnS (D (m + 1)) (m + 1)
 small : ∀ m, 1 ≤ m → m ≤ n → smallQ ((D m).getD m 0) = true
 sm : ∀ m, m ≤ n → ∃ E A, Sm (D m) E A ∧ E ≤ 2 ^ A ∧ dg A ≤ S
end Nt
theorem Nt.Down.fit {l : List Rat} {D : Nat → List Rat} {n S m K : Nat} {u : World} {x : Sl} (h : Nt.Down l D n S) (hm : m ≤ n) (hx : PolN u x (D m) K) : PolN u x (D m) S := by
 obtain ⟨E, A, h1, h2, h3⟩ := h.sm m hm
 exact (hx.fitS h1 h2).more h3
namespace Nt
theorem wq_small {z f : Int} (h0 : -p2i f < z) (h1 : z < p2i f) : -1 < wq z f ∧ wq z f < 1 := by
 have hF := p2i_pos f
 have hP : (0 : Rat) < ((p2i f : Int) : Rat) := Rat.intCast_pos.2 hF
 have k0 : -((p2i f : Int) : Rat) < (z : Rat) := by rw [← Rat.intCast_neg]; exact Rat.intCast_lt_intCast.2 h0
 have k1 : (z : Rat) < ((p2i f : Int) : Rat) := Rat.intCast_lt_intCast.2 h1
 have e : wq z f * ((p2i f : Int) : Rat) = (z : Rat) := by unfold wq; exact Rat.div_mul_cancel (Ne.symm (Rat.ne_of_lt hP))
 generalize ((p2i f : Int) : Rat) = P at *
 generalize wq z f = q at *
 constructor
 ·refine Rat.not_le.1 fun hc => ?_
  have := Rat.mul_le_mul_of_nonneg_right hc (Rat.le_of_lt hP)
  grind
 ·refine Rat.not_le.1 fun hc => ?_
  have := Rat.mul_le_mul_of_nonneg_right hc (Rat.le_of_lt hP)
  grind
end Nt
theorem pol_take3 {u : World} {x : Sl} {l : List Rat} {K n : Nat} (h : PolV u x l K) (hn : n ≤ l.length) : PolV u ⟨x.a, n, n⟩ (l.take n) K := by
 obtain ⟨L, ⟨h1, h2, h3, h4⟩, h5⟩ := pol_take h hn
 exact ⟨L, ⟨h1, Nat.le_refl n, Nat.le_trans h2 h3, h4⟩, h5⟩
namespace Nt
theorem upL_at (l : List Rat) {i j : Nat} (h : j < i + 2) : (upL l (i + 1)).getD j 0 = (upL l i).getD j 0 + l.getD i 0 * (upL l i).getD (i + 1 - j) 0 := by
 show (upS _ _ _).getD j 0 = _
 rw [upS_at _ _ _ _ (by rw [List.length_append, upL_len]; simpa using h), getD_app0, getD_app0]
theorem upL_take (k : List Rat) {n i : Nat} (h : i ≤ n) : upL (k.take n) i = upL k i := by
 induction i with
 | zero => rfl
 | succ i ih =>
  show upS _ _ _ = upS _ _ _
  rw [ih (by omega)]
  congr 1
  rw [List.getD_eq_getElem?_getD, List.getD_eq_getElem?_getD, List.getElem?_take_of_lt (by omega)]
theorem small_take {k : List Rat} (h : ∀ i, i < k.length → smallQ (k.getD i 0) = true) (n : Nat) : ∀ i, i < (k.take n).length → smallQ ((k.take n).getD i 0) = true := fun i hi => by
 rw [List.length_take] at hi
 rw [List.getD_eq_getElem?_getD, List.getElem?_take_of_lt (by omega), ← List.getD_eq_getElem?_getD]
 exact h i (by omega)
def revL (k : List Rat) (i : Nat) : List Rat := (List.range (i + 1)).map fun j => (upL k i).getD (i - j) 0
theorem revL_len (k : List Rat) (i : Nat) : (revL k i).length = i + 1 := by unfold revL; simp
theorem revL_at (k : List Rat) {i j : Nat} (h : j ≤ i) : (revL k i).getD j 0 = (upL k i).getD (i - j) 0 := by
 unfold revL
 rw [List.getD_eq_getElem?_getD, List.getElem?_map, List.getElem?_range (by omega)]
 rfl
theorem cmpQ_self (q : Rat) : (cmpQ q q != 0) = false := by
 have h : (cmpQ q q == (0 : Int)) = true := by rw [cmpQ_eq, decide_eq_true rfl]
 show (!(cmpQ q q == (0 : Int))) = false
 rw [h]; rfl
theorem trimD (l : List Rat) (i : Nat) : (trimQ l).getD i 0 = l.getD i 0 := trim_co l i
end Nt
theorem k_stepUpG {u w : World} {x : Sl} {l : List Rat} {M : Nat} (d : Dat u w) (hx : PolV u x l M) (hl : l.length ≤ 8) (hM : M ≤ 4) (hz : ∀ i, i < l.length → Nt.smallQ (l.getD i 0) = true) : Calls Tryz.prog 52 #[x.v] w (Post u w fun v u' => ∃ y : Sl, v = .tuple #[y.v, .int .i64 0] ∧ PolN u' y (Nt.trimQ (Nt.upL l l.length)) (Nt.upK l.length)) :=
 Post.mono (k_stepUp d hx hl hM) fun v u' _ h => by
  rcases h with ⟨i, h1, h2, _⟩ | ⟨_, h⟩
  ·rw [hz i h1] at h2; cases h2
  ·exact h
set_option maxHeartbeats 4000000 in
theorem k_rstepUp {u w : World} {x : Sl} {l : List Rat} {M : Nat} (d : Dat u w) (hx : PolV u x l M) (hl : l.length ≤ 8) (hM : M ≤ 4) : Calls Tryz.prog 78 #[x.v] w (Post u w (UpV l)) := by
 have hlen := hx.len
 refine zzl (args := [.slice x.a x.n x.c]) Tryz.func78 rfl Tryz.ntmps78 (rs := [.tmp 2, .tmp 3]) Tryz.results78 (le_b rfl) (le_b rfl) d ?_
 refine sq9 ?_
 refine zza 2 (.v (.slice none 0 0)) ?_
 refine zza 3 (.v (.int .i64 0)) ?_
 refine zzb 49 [(0, .v x.v)] [] ?_
 refine zzc ?_
 refine sq9 ?_
 refine zza 9 (.v x.v) ?_
 refine zza 10 (.v (.int .i64 (x.n : Int))) ?_
 refine zza 11 (.v (.bool (decide ((48 : Int) < (x.n : Int))))) ?_
 refine zzb 49 [(0, .v x.v), (11, .v (.bool (decide ((48 : Int) < (x.n : Int)))))] [] ?_
 refine zzt (b := decide ((48 : Int) < (x.n : Int))) (by kernel_rfl) (fun hb => ?_) (fun hb => ?_)
 ·exact absurd hb (by rw [show (decide ((48 : Int) < (x.n : Int))) = false from decide_eq_false (by omega)]; decide)
 ·clear hb
  refine zzr (zzo ?_)
  refine sq9 ?_
  refine zzf 12 13 [.int .i64 1] ?_
  intro w11 u11 e11 d11
  have k16 := k_rqOf d11 (z := 1) (by omega) (by omega)
  with_reducible refine zPm k16 ?_
  rintro _ u14 g15 ⟨r12, rfl, h13⟩
  refine sy_data 13 ⟨41, r12.cs⟩ 1 (fun b17 u18 e19 h20 => ?_)
  have hp21 : PolN u18 (⟨some ⟨b17, 0, none⟩, 1, 1⟩ : Sl) [((1 : Int) : Rat)] 2 := pol_lit (L := [r12]) h20 (rats1 (h13.ext e19)) rfl (by decide)
  refine zza 4 (.v (.slice (some ⟨b17, 0, none⟩) 1 1)) ?_
  refine zzb 49 [(0, .v x.v), (4, .v (.slice (some ⟨b17, 0, none⟩) 1 1))] [] ?_
  refine zzc ?_
  refine sq9 ?_
  refine zza 14 (.v x.v) ?_
  refine zza 15 (.v (.int .i64 (x.n : Int))) ?_
  refine zza 16 (.v (.int .i64 0)) ?_
  refine zzb 49 [(4, .v (.slice (some ⟨b17, 0, none⟩) 1 1)), (14, .v x.v), (15, .v (.int .i64 (x.n : Int))), (16, .v (.int .i64 0))] [] ?_
  refine zzs ?_
  refine zym (I := fun m22 S' u' => ∃ (i : Nat) (c : Sl), (m22 = l.length - i) ∧ (i ≤ l.length) ∧ (∀ j, j < i → Nt.smallQ (l.getD j 0) = true) ∧ (S' = St.of 49 [(4, .v (.slice c.a c.n c.c)), (14, .v (.slice x.a x.n x.c)), (15, .v (.int .i64 (x.n : Int))), (16, .v (.int .i64 (i : Int)))] []) ∧ (Ext u18 u') ∧ (PolN u' c (Nt.upL l i) (Nt.upK i))) (fun m S u1 u2 e h => by obtain ⟨i, c, hm, p0, p1, hS, hE, f0⟩ := h; exact ⟨i, c, hm, p0, p1, hS, hE.trans e, f0.ext e⟩) _ (T := St.of 49 [(4, .v (.slice (some ⟨b17, 0, none⟩) 1 1)), (14, .v (.slice x.a x.n x.c)), (15, .v (.int .i64 (x.n : Int))), (16, .v (.int .i64 0))] []) (by exact zzu _ _ _) ⟨0, (⟨some ⟨b17, 0, none⟩, 1, 1⟩ : Sl), rfl, Nat.zero_le _, fun j hj => absurd hj (Nat.not_lt_zero j), rfl, (Ext.refl _), (PolN.more hp21 (by decide))⟩ ?_
  rintro m22 _ u22 ⟨i, c, hm22, hi, hz, rfl, e22, hC⟩
  have hcl := hC.len
  have hul := Nt.upL_len l i
  have huk := Nt.upK_succ i
  have huk2 := Nt.upK_le8 (show i ≤ 8 by omega)
  refine sq9 ?_
  refine zza 17 (.v (.bool (decide ((i : Int) < (x.n : Int))))) ?_
  refine zzb 49 [(4, .v c.v), (14, .v x.v), (15, .v (.int .i64 (x.n : Int))), (16, .v (.int .i64 (i : Int))), (17, .v (.bool (decide ((i : Int) < (x.n : Int)))))] [] ?_
  refine zzc ?_
  refine zzt (b := decide ((i : Int) < (x.n : Int))) (by kernel_rfl) (fun hb23 => ?_) (fun hb23 => ?_)
  ·replace hb23 : (decide ((i : Int) < (x.n : Int))) = true := hb23
   have qhb23 := of_decide_eq_true hb23
   refine zzr (zzo ?_)
   refine zzc ?_
   refine zzs ?_
   refine sq9 ?_
   refine zza 18 (.v (.int .i64 (i : Int))) ?_
   have hl24 := (hx.ext (e11.trans (g15.ext.trans (e19.trans e22)))).len
   obtain ⟨r24, b24, o24, hA24, hc24, hr24⟩ := pol_at (hx.ext (e11.trans (g15.ext.trans (e19.trans e22)))) (i := i) (by omega)
   refine zzz 19 (o24 + i * 3) (n := x.n) (off := o24) (sz := 3) (i := (i : Int)) (by omega) hA24 (by omega) (by omega) sl28 ?_
   refine zyl 20 r24.cs hc24 ty41 ?_
   refine zzj 6 ⟨41, [.bool false, .slice none 0 0, .slice none 0 0]⟩ ?_
   refine zza 5 (.v (.int .i64 (i : Int))) ?_
   refine zzi ⟨41, r24.cs⟩ ty41 ?_
   refine zzb 49 [(4, .v c.v), (5, .v (.int .i64 (i : Int))), (6, .adr 6 0), (14, .v x.v), (15, .v (.int .i64 (x.n : Int))), (16, .v (.int .i64 (i : Int)))] [(6, ⟨41, r24.cs⟩)] ?_
   refine zzc ?_
   refine sq9 ?_
   refine zzh 21 (.v (r24.v)) ty41 zzd ?_
   refine zzf 22 155 [r24.v] ?_
   intro w25 u25 e25 d25
   have k28 := k_rsmall d25 (hr24.ext e25) (by omega)
   with_reducible refine zPm k28 ?_
   rintro _ u26 g27 rfl
   refine zza 23 (.v (.bool (!(Nt.smallQ (l.getD i 0))))) ?_
   refine zzb 49 [(4, .v c.v), (5, .v (.int .i64 (i : Int))), (6, .adr 6 0), (14, .v x.v), (15, .v (.int .i64 (x.n : Int))), (16, .v (.int .i64 (i : Int))), (23, .v (.bool (!(Nt.smallQ (l.getD i 0)))))] [(6, ⟨41, r24.cs⟩)] ?_
   refine zzt (b := !(Nt.smallQ (l.getD i 0))) (by kernel_rfl) (fun hb29 => ?_) (fun hb29 => ?_)
   ·replace hb29 : (!(Nt.smallQ (l.getD i 0))) = true := hb29
    refine sq9 ?_
    refine zza 2 (.v (.slice none 0 0)) ?_
    refine zza 3 (.v (.int .i64 14)) ?_
    refine zzb 49 [(2, .v (.slice none 0 0)), (3, .v (.int .i64 14))] [] ?_
    refine zzn (zzv (zyt (zzv (zys (zyt (zzv (ret0 [.slice none 0 0, .int .i64 14] ⟨zzp, zzp, trivial⟩ fun u30 e31 => ?_)))))))
    exact .inl ⟨i, by omega, by simpa using hb29, rfl⟩
   ·replace hb29 : (!(Nt.smallQ (l.getD i 0))) = false := hb29
    refine zzr (zzo ?_)
    refine sq9 ?_
    refine zza 7 (.v (.slice none 0 0)) ?_
    refine zzb 49 [(4, .v c.v), (5, .v (.int .i64 (i : Int))), (6, .adr 6 0), (7, .v (.slice none 0 0)), (14, .v x.v), (15, .v (.int .i64 (x.n : Int))), (16, .v (.int .i64 (i : Int)))] [(6, ⟨41, r24.cs⟩)] ?_
    refine zzc ?_
    refine sq9 ?_
    refine zza 8 (.v (.int .i64 0)) ?_
    refine zzb 49 [(4, .v c.v), (5, .v (.int .i64 (i : Int))), (6, .adr 6 0), (7, .v (.slice none 0 0)), (8, .v (.int .i64 0)), (14, .v x.v), (15, .v (.int .i64 (x.n : Int))), (16, .v (.int .i64 (i : Int)))] [(6, ⟨41, r24.cs⟩)] ?_
    refine zzs ?_
    refine zym (I := fun m32 S' u' => (m32 = (i + 2) ∧ S' = St.of 49 [(4, .v (.slice c.a c.n c.c)), (5, .v (.int .i64 (i : Int))), (6, .adr 6 0), (7, .v (.slice none 0 0)), (8, .v (.int .i64 0)), (14, .v (.slice x.a x.n x.c)), (15, .v (.int .i64 (x.n : Int))), (16, .v (.int .i64 (i : Int)))] [(6, ⟨41, r24.cs⟩)] ∧ Ext u26 u') ∨ (∃ (i2 : Nat) (L2 : List RL) (cs2 : List Value) (cp2 : Nat), m32 = (i + 2) - i2 ∧ i2 ≤ (i + 2) ∧ 0 < i2 ∧ L2.length = i2 ∧ cs2.length = cp2 * 3 ∧ i2 ≤ cp2 ∧ cp2 ≤ maxLen ∧ cs2.take (i2 * 3) = rcs L2 ∧ S' = St.of 49 [(4, .v (.slice c.a c.n c.c)), (5, .v (.int .i64 (i : Int))), (6, .adr 6 0), (7, .slc 44 0 i2 cp2), (8, .v (.int .i64 (i2 : Int))), (14, .v (.slice x.a x.n x.c)), (15, .v (.int .i64 (x.n : Int))), (16, .v (.int .i64 (i : Int)))] [(6, ⟨41, r24.cs⟩), (44, ⟨41, cs2⟩)] ∧ Ext u26 u' ∧ RatsN u' L2 ((Nt.upL l (i + 1)).take i2) (Nt.upK (i + 1)))) (fun m S u1 u2 e h => by rcases h with ⟨a, b, c⟩ | ⟨a1, a2, a3, a4, b1, b2, b3, b4, b5, b6, b7, b8, b9, b10, b11⟩; exact .inl ⟨a, b, c.trans e⟩; exact .inr ⟨a1, a2, a3, a4, b1, b2, b3, b4, b5, b6, b7, b8, b9, b10.trans e, b11.ext e⟩) _ (T := St.of 49 [(4, .v (.slice c.a c.n c.c)), (5, .v (.int .i64 (i : Int))), (6, .adr 6 0), (7, .v (.slice none 0 0)), (8, .v (.int .i64 0)), (14, .v (.slice x.a x.n x.c)), (15, .v (.int .i64 (x.n : Int))), (16, .v (.int .i64 (i : Int)))] [(6, ⟨41, r24.cs⟩)]) (by exact zzu _ _ _) (.inl ⟨rfl, rfl, Ext.refl _⟩) ?_
    rintro m32 _ u32 (⟨hm32, rfl, e32⟩ | ⟨i2, L2, cs2, cp2, hm32, hi2, hp2, hL2, hc2, hle2, hmx2, ht2, rfl, e32, hR2⟩)
    ·change SW _ _ _ _ (St.of 49 [(4, .v (.slice c.a c.n c.c)), (5, .v (.int .i64 (i : Int))), (6, .adr 6 0), (7, .v (.slice none 0 0)), (8, .v (.int .i64 0)), (14, .v (.slice x.a x.n x.c)), (15, .v (.int .i64 (x.n : Int))), (16, .v (.int .i64 (i : Int)))] [(6, ⟨41, r24.cs⟩)]) _ _
     refine zzc ?_
     refine sq9 ?_
     refine zza 24 (.v (.int .i64 0)) ?_
     refine zza 25 (.v (.int .i64 (i : Int))) ?_
     refine zyp 26 (x := .v (.int .i64 (IntKind.i64.wrap ((i : Int) + 1)))) (.v (.int .i64 ((i + 1 : Nat) : Int))) (eqI (by rw [IntWalk.i64_in _ (by omega)]; omega)) ?_
     refine zza 27 (.v (.bool (decide ((0 : Int) ≤ ((i + 1 : Nat) : Int))))) ?_
     refine zzb 49 [(4, .v c.v), (5, .v (.int .i64 (i : Int))), (6, .adr 6 0), (7, .v (.slice none 0 0)), (8, .v (.int .i64 0)), (14, .v x.v), (15, .v (.int .i64 (x.n : Int))), (16, .v (.int .i64 (i : Int))), (27, .v (.bool (decide ((0 : Int) ≤ ((i + 1 : Nat) : Int)))))] [(6, ⟨41, r24.cs⟩)] ?_
     refine zzt (b := decide ((0 : Int) ≤ ((i + 1 : Nat) : Int))) (by kernel_rfl) (fun hb => ?_) (fun hb => ?_)
     ·clear hb
      refine zzr (zzo ?_)
      refine zzc ?_
      refine zzs ?_
      refine zzy [0, 0, 0, 6, 0, 0, 0, 64, 0, 448, 1006, 2046, 4094, 8190, 16383, 32767] [(0, []), (1, []), (2, []), (4, []), (5, []), (6, []), (7, []), (8, []), (9, []), (3, []), (10, []), (11, []), (12, []), (13, []), (14, []), (15, [])] (by kernel_rfl) (by kernel_rfl) ?_
      refine zza 30 (.v (.slice none 0 0)) ?_
      refine zza 31 (.v c.v) ?_
      refine zza 32 (.v (.int .i64 0)) ?_
      refine zzh 34 (.v (r24.v)) ty41 zzd ?_
      refine zza 35 (.v c.v) ?_
      refine zza 36 (.v (.int .i64 (i : Int))) ?_
      refine zyp 37 (x := .v (.int .i64 (IntKind.i64.wrap ((i : Int) + 1)))) (.v (.int .i64 ((i + 1 : Nat) : Int))) (eqI (by rw [IntWalk.i64_in _ (by omega)]; omega)) ?_
      refine zza 38 (.v (.int .i64 0)) ?_
      refine zyp 39 (x := .v (.int .i64 (IntKind.i64.wrap (((i + 1 : Nat) : Int) - 0)))) (.v (.int .i64 (((i + 1) - 0 : Nat) : Int))) (eqI (by rw [IntWalk.i64_in _ (by omega)]; omega)) ?_
      refine zzf 33 156 [c.v, .int .i64 0] ?_
      intro w33 u33 e33 d33
      have k38 := (show Calls _ _ #[_, .int .i64 (0)] _ _ from k_r5At (i := 0) d33 (hC.ext (e25.trans (g27.ext.trans (e32.trans e33)))).raw (by omega) (by first|omega|(simp;omega) | (refine Nat.le_trans (Nt.zzg _) ?_; first|omega|(simp;omega)) | (refine Nat.le_trans (Nt.zzg _) ?_; simp only [List.length_map]; refine Nat.le_trans (Nt.zzg _) ?_; first|omega|(simp;omega))) (by omega))
      with_reducible refine zPm k38 ?_
      rintro _ u36 g37 ⟨r34, rfl, h35⟩
      refine zzf 40 156 [c.v, .int .i64 (((i + 1) - 0 : Nat) : Int)] ?_
      intro w39 u39 e39 d39
      have k44 := (show Calls _ _ #[_, .int .i64 ((((i + 1) - 0 : Nat) : Int))] _ _ from k_r5At (i := (i + 1) - 0) d39 (hC.ext (e25.trans (g27.ext.trans (e32.trans (e33.trans (g37.ext.trans e39)))))).raw (by omega) (by first|omega|(simp;omega) | (refine Nat.le_trans (Nt.zzg _) ?_; first|omega|(simp;omega)) | (refine Nat.le_trans (Nt.zzg _) ?_; simp only [List.length_map]; refine Nat.le_trans (Nt.zzg _) ?_; first|omega|(simp;omega))) (by omega))
      with_reducible refine zPm k44 ?_
      rintro _ u42 g43 ⟨r40, rfl, h41⟩
      refine zzf 41 90 [r24.v, r40.v] ?_
      intro w45 u45 e45 d45
      have k50 := k_rqMul d45 (hr24.ext (e25.trans (g27.ext.trans (e32.trans (e33.trans (g37.ext.trans (e39.trans (g43.ext.trans e45)))))))) (h41.ext e45).raw (by omega) (by omega)
      with_reducible refine zPm k50 ?_
      rintro _ u48 g49 ⟨r46, rfl, h47⟩
      refine zzf 42 150 [r34.v, r46.v] ?_
      intro w51 u51 e51 d51
      have k56 := k_rqAdd d51 (h35.ext (e39.trans (g43.ext.trans (e45.trans (g49.ext.trans e51))))).raw (h47.ext e51).raw (by omega) (by omega)
      with_reducible refine zPm k56 ?_
      rintro _ u54 g55 ⟨r52, rfl, h53⟩
      refine sy_lit 43 ⟨41, r52.cs⟩ 1 ?_
      refine sy_appL0 44 (T := 29) (E := 41) (z := .agg #[.bool false, .slice none 0 0, .slice none 0 0]) (size := 3) (bytes := 56) (m := 1) (t2 := 43) r52.cs (by kernel_rfl) (by kernel_rfl) (by kernel_rfl) (by decide) rfl (rl_one r52) (by decide) (by decide) (by decide) ?_
      intro c57 cs57 ha57 hb57 hc57 hd57
      refine zza 7 (.slc 44 0 1 c57) ?_
      refine zzw ?_
      refine zzo ?_
      refine zze ?_
      refine zza 28 (.v (.int .i64 0)) ?_
      refine zza 29 (.v (.int .i64 1)) ?_
      refine zza 8 (.v (.int .i64 1)) ?_
      refine zzw ?_
      have ht58 : 0 < (Nt.upL l (i + 1)).length := by rw [Nt.upL_len]; omega
      refine ⟨_, ?_, St.of 49 [(4, .v (.slice c.a c.n c.c)), (5, .v (.int .i64 (i : Int))), (6, .adr 6 0), (7, .slc 44 0 1 c57), (8, .v (.int .i64 1)), (14, .v (.slice x.a x.n x.c)), (15, .v (.int .i64 (x.n : Int))), (16, .v (.int .i64 (i : Int)))] [(6, ⟨41, r24.cs⟩), (44, ⟨41, cs57⟩)], by exact zzu _ _ _, .inr ⟨1, [r52], cs57, c57, rfl, by omega, by omega, by simp, hc57, by omega, hb57, hd57, rfl, (e32.trans (e33.trans (g37.ext.trans (e39.trans (g43.ext.trans (e45.trans (g49.ext.trans (e51.trans g55.ext)))))))), (app_first (RatN.more (K := (((Nt.upK i) + 2) + (M + ((Nt.upK i) + 2) + 1) + 2)) h53 (by omega)) ht58 (Nt.upL_at l (i := i) (j := 0) (by omega)).symm)⟩⟩
      omega
     ·exact absurd hb (by rw [show (decide ((0 : Int) ≤ ((i + 1 : Nat) : Int))) = true from decide_eq_true (by omega)]; decide)
    ·change SW _ _ _ _ (St.of 49 [(4, .v (.slice c.a c.n c.c)), (5, .v (.int .i64 (i : Int))), (6, .adr 6 0), (7, .slc 44 0 i2 cp2), (8, .v (.int .i64 (i2 : Int))), (14, .v (.slice x.a x.n x.c)), (15, .v (.int .i64 (x.n : Int))), (16, .v (.int .i64 (i : Int)))] [(6, ⟨41, r24.cs⟩), (44, ⟨41, cs2⟩)]) _ _
     refine zzc ?_
     refine sq9 ?_
     refine zza 24 (.v (.int .i64 (i2 : Int))) ?_
     refine zza 25 (.v (.int .i64 (i : Int))) ?_
     refine zyp 26 (x := .v (.int .i64 (IntKind.i64.wrap ((i : Int) + 1)))) (.v (.int .i64 ((i + 1 : Nat) : Int))) (eqI (by rw [IntWalk.i64_in _ (by omega)]; omega)) ?_
     refine zza 27 (.v (.bool (decide ((i2 : Int) ≤ ((i + 1 : Nat) : Int))))) ?_
     refine zzb 49 [(4, .v c.v), (5, .v (.int .i64 (i : Int))), (6, .adr 6 0), (7, .slc 44 0 i2 cp2), (8, .v (.int .i64 (i2 : Int))), (14, .v x.v), (15, .v (.int .i64 (x.n : Int))), (16, .v (.int .i64 (i : Int))), (27, .v (.bool (decide ((i2 : Int) ≤ ((i + 1 : Nat) : Int)))))] [(6, ⟨41, r24.cs⟩), (44, ⟨41, cs2⟩)] ?_
     refine zzt (b := decide ((i2 : Int) ≤ ((i + 1 : Nat) : Int))) (by kernel_rfl) (fun hb59 => ?_) (fun hb59 => ?_)
     ·replace hb59 : (decide ((i2 : Int) ≤ ((i + 1 : Nat) : Int))) = true := hb59
      have qhb59 := of_decide_eq_true hb59
      refine zzr (zzo ?_)
      refine zzc ?_
      refine zzs ?_
      refine zzy [0, 0, 0, 6, 0, 0, 0, 64, 0, 448, 1006, 2046, 4094, 8190, 16383, 32767] [(0, []), (1, []), (2, []), (4, []), (5, []), (6, []), (7, []), (8, []), (9, []), (3, []), (10, []), (11, []), (12, []), (13, []), (14, []), (15, [])] (by kernel_rfl) (by kernel_rfl) ?_
      refine zza 30 (.slc 44 0 i2 cp2) ?_
      refine zza 31 (.v c.v) ?_
      refine zza 32 (.v (.int .i64 (i2 : Int))) ?_
      refine zzh 34 (.v (r24.v)) ty41 zzd ?_
      refine zza 35 (.v c.v) ?_
      refine zza 36 (.v (.int .i64 (i : Int))) ?_
      refine zyp 37 (x := .v (.int .i64 (IntKind.i64.wrap ((i : Int) + 1)))) (.v (.int .i64 ((i + 1 : Nat) : Int))) (eqI (by rw [IntWalk.i64_in _ (by omega)]; omega)) ?_
      refine zza 38 (.v (.int .i64 (i2 : Int))) ?_
      refine zyp 39 (x := .v (.int .i64 (IntKind.i64.wrap (((i + 1 : Nat) : Int) - (i2 : Int))))) (.v (.int .i64 (((i + 1) - i2 : Nat) : Int))) (eqI (by rw [IntWalk.i64_in _ (by omega)]; omega)) ?_
      refine zzf 33 156 [c.v, .int .i64 (i2 : Int)] ?_
      intro w60 u60 e60 d60
      have k65 := (show Calls _ _ #[_, .int .i64 ((i2 : Int))] _ _ from k_r5At (i := i2) d60 (hC.ext (e25.trans (g27.ext.trans (e32.trans e60)))).raw (by omega) (by first|omega|(simp;omega) | (refine Nat.le_trans (Nt.zzg _) ?_; first|omega|(simp;omega)) | (refine Nat.le_trans (Nt.zzg _) ?_; simp only [List.length_map]; refine Nat.le_trans (Nt.zzg _) ?_; first|omega|(simp;omega))) (by omega))
      with_reducible refine zPm k65 ?_
      rintro _ u63 g64 ⟨r61, rfl, h62⟩
      refine zzf 40 156 [c.v, .int .i64 (((i + 1) - i2 : Nat) : Int)] ?_
      intro w66 u66 e66 d66
      have k71 := (show Calls _ _ #[_, .int .i64 ((((i + 1) - i2 : Nat) : Int))] _ _ from k_r5At (i := (i + 1) - i2) d66 (hC.ext (e25.trans (g27.ext.trans (e32.trans (e60.trans (g64.ext.trans e66)))))).raw (by omega) (by first|omega|(simp;omega) | (refine Nat.le_trans (Nt.zzg _) ?_; first|omega|(simp;omega)) | (refine Nat.le_trans (Nt.zzg _) ?_; simp only [List.length_map]; refine Nat.le_trans (Nt.zzg _) ?_; first|omega|(simp;omega))) (by omega))
      with_reducible refine zPm k71 ?_
      rintro _ u69 g70 ⟨r67, rfl, h68⟩
      refine zzf 41 90 [r24.v, r67.v] ?_
      intro w72 u72 e72 d72
      have k77 := k_rqMul d72 (hr24.ext (e25.trans (g27.ext.trans (e32.trans (e60.trans (g64.ext.trans (e66.trans (g70.ext.trans e72)))))))) (h68.ext e72).raw (by omega) (by omega)
      with_reducible refine zPm k77 ?_
      rintro _ u75 g76 ⟨r73, rfl, h74⟩
      refine zzf 42 150 [r61.v, r73.v] ?_
      intro w78 u78 e78 d78
      have k83 := k_rqAdd d78 (h62.ext (e66.trans (g70.ext.trans (e72.trans (g76.ext.trans e78))))).raw (h74.ext e78).raw (by omega) (by omega)
      with_reducible refine zPm k83 ?_
      rintro _ u81 g82 ⟨r79, rfl, h80⟩
      refine sy_lit 43 ⟨41, r79.cs⟩ 1 ?_
      refine sy_appL1 44 (T := 29) (E := 41) (z := .agg #[.bool false, .slice none 0 0, .slice none 0 0]) (size := 3) (bytes := 56) (m := 1) (t2 := 43) (n := i2) (cap := cp2) (t := 44) (cs0 := cs2) [7, 30, 44] r79.cs (by kernel_rfl) (by kernel_rfl) (by kernel_rfl) (by decide) rfl (rl_one r79) (by decide) (by unfold maxLen; omega) (by omega) (by omega) (by omega) (by omega) (by repeat first | exact noAt_of | refine zyc ?_ | refine zye ?_ | refine zyd ?_ | refine zzx ?_ | refine zya ?_) ?_
      intro c84 cs84 ha84 hb84 hc84 hd84
      have hd84r : cs84.take ((i2 + 1) * 3) = rcs (L2 ++ [r79]) := by rw [hd84, ht2, rcs_app]; rfl
      refine zza 7 (.slc 44 0 (i2 + 1) c84) ?_
      refine zzw ?_
      refine zzo ?_
      refine zze ?_
      refine zza 28 (.v (.int .i64 (i2 : Int))) ?_
      refine zyp 29 (x := .v (.int .i64 (IntKind.i64.wrap ((i2 : Int) + 1)))) (.v (.int .i64 ((i2 + 1 : Nat) : Int))) (eqI (by rw [IntWalk.i64_in _ (by omega)]; omega)) ?_
      refine zza 8 (.v (.int .i64 ((i2 + 1 : Nat) : Int))) ?_
      refine zzw ?_
      have ht85 : i2 < (Nt.upL l (i + 1)).length := by rw [Nt.upL_len]; omega
      refine ⟨_, ?_, St.of 49 [(4, .v (.slice c.a c.n c.c)), (5, .v (.int .i64 (i : Int))), (6, .adr 6 0), (7, .slc 44 0 (i2 + 1) c84), (8, .v (.int .i64 ((i2 + 1 : Nat) : Int))), (14, .v (.slice x.a x.n x.c)), (15, .v (.int .i64 (x.n : Int))), (16, .v (.int .i64 (i : Int)))] [(6, ⟨41, r24.cs⟩), (44, ⟨41, cs84⟩)], by exact zzu _ _ _, .inr ⟨i2 + 1, L2 ++ [r79], cs84, c84, rfl, by omega, by omega, by simp; omega, hc84, by omega, hb84, hd84r, rfl, (e32.trans (e60.trans (g64.ext.trans (e66.trans (g70.ext.trans (e72.trans (g76.ext.trans (e78.trans g82.ext)))))))), (app_next (hR2.ext (e60.trans (g64.ext.trans (e66.trans (g70.ext.trans (e72.trans (g76.ext.trans (e78.trans g82.ext)))))))) (RatN.more (K := (((Nt.upK i) + 2) + (M + ((Nt.upK i) + 2) + 1) + 2)) h80 (by omega)) ht85 (Nt.upL_at l (i := i) (j := i2) (by omega)).symm)⟩⟩
      omega
     ·replace hb59 : (decide ((i2 : Int) ≤ ((i + 1 : Nat) : Int))) = false := hb59
      have qhb59 := of_decide_eq_false hb59
      refine zyb ?_
      refine zzo ?_
      refine zyo (r := 7) (t := 44) [7, 44] (by repeat first | exact noAt_of | refine zyc ?_ | refine zye ?_ | refine zyd ?_ | refine zzx ?_ | refine zya ?_) (by kernel_rfl) (by rfl) (by rfl) (by kernel_rfl) (fun b87 u88 e89 hb90 hh91 => ?_)
      have hp86 : PolN u88 ⟨some ⟨b87, 0, none⟩, i2, cp2⟩ (Nt.upL l (i + 1)) (Nt.upK (i + 1)) := by have h8 := pol_data hh91 ht2 hc2 hle2 hmx2 (hR2.ext e89); rw [List.take_of_length_le (l := (Nt.upL l (i + 1))) (by rw [Nt.upL_len]; omega)] at h8; exact h8
      refine zze ?_
      refine zza 45 (.v (.slice (some ⟨b87, 0, none⟩) i2 cp2)) ?_
      refine zza 4 (.v (.slice (some ⟨b87, 0, none⟩) i2 cp2)) ?_
      refine zzw ?_
      refine zzo ?_
      refine zze ?_
      refine zyp 46 (x := .v (.int .i64 (IntKind.i64.wrap ((i : Int) + 1)))) (.v (.int .i64 ((i + 1 : Nat) : Int))) (eqI (by rw [IntWalk.i64_in _ (by omega)]; omega)) ?_
      refine zza 16 (.v (.int .i64 ((i + 1 : Nat) : Int))) ?_
      refine zzw ?_
      refine ⟨_, ?_, St.of 49 [(4, .v (.slice (some ⟨b87, 0, none⟩) i2 cp2)), (14, .v (.slice x.a x.n x.c)), (15, .v (.int .i64 (x.n : Int))), (16, .v (.int .i64 ((i + 1 : Nat) : Int)))] [], by exact zzu _ _ _, i + 1, (⟨some ⟨b87, 0, none⟩, i2, cp2⟩ : Sl), rfl, by omega, (fun j hj => by by_cases e : j = i; (rw [e]; simpa using hb29); exact hz j (by omega)), rfl, (e22.trans (e25.trans (g27.ext.trans (e32.trans e89)))), hp86⟩
      omega
  ·replace hb23 : (decide ((i : Int) < (x.n : Int))) = false := hb23
   have qhb23 := of_decide_eq_false hb23
   refine zyb ?_
   refine zzo ?_
   refine sq9 ?_
   refine zza 47 (.v c.v) ?_
   refine zzf 48 82 [c.v] ?_
   intro w92 u92 e92 d92
   have k97 := k_r5Trim d92 (hC.ext e92).raw (by omega) (by first|omega|(simp;omega) | (refine Nat.le_trans (Nt.zzg _) ?_; first|omega|(simp;omega)) | (refine Nat.le_trans (Nt.zzg _) ?_; simp only [List.length_map]; refine Nat.le_trans (Nt.zzg _) ?_; first|omega|(simp;omega)))
   with_reducible refine zPm k97 ?_
   rintro _ u95 g96 ⟨y93, rfl, h94⟩
   have hly93 := h94.len
   refine zza 2 (.v y93.v) ?_
   refine zza 3 (.v (.int .i64 0)) ?_
   refine zzb 49 [(2, .v y93.v), (3, .v (.int .i64 0))] [] ?_
   refine zzn (ret0 [.slice y93.a y93.n y93.c, .int .i64 0] ⟨zzp, zzp, trivial⟩ fun u98 e99 => ?_)
   have hi9 : i = l.length := by omega
   refine .inr ⟨fun j hj => hz j (by omega), y93, rfl, ?_⟩
   have h9 := (h94.ext e99)
   rw [hi9] at h9
   exact h9
theorem k_rstepUpG {u w : World} {x : Sl} {l : List Rat} {M : Nat} (d : Dat u w) (hx : PolV u x l M) (hl : l.length ≤ 8) (hM : M ≤ 4) (hz : ∀ i, i < l.length → Nt.smallQ (l.getD i 0) = true) : Calls Tryz.prog 78 #[x.v] w (Post u w fun v u' => ∃ y : Sl, v = .tuple #[y.v, .int .i64 0] ∧ PolN u' y (Nt.trimQ (Nt.upL l l.length)) (Nt.upK l.length)) :=
 Post.mono (k_rstepUp d hx hl hM) fun v u' _ h => by
  rcases h with ⟨i, h1, h2, _⟩ | ⟨_, h⟩
  ·rw [hz i h1] at h2; cases h2
  ·exact h
set_option maxHeartbeats 2000000 in
theorem k_reversed {u w : World} {x : Sl} {l : List Rat} {M i : Nat} (d : Dat u w) (hx : PolV u x l M) (hl : l.length ≤ 8) (hM : M ≤ 4) (hz : ∀ i, i < l.length → Nt.smallQ (l.getD i 0) = true) (hi : i ≤ l.length) : Calls Tryz.prog 51 #[x.v, .int .i64 (i : Int)] w (Post u w fun v u' => ∃ y : Sl, v = y.v ∧ PolN u' y (Nt.revL l i) (Nt.upK i)) := by
 have hlen := hx.len
 have huk := Nt.upK_succ i
 refine zzl (args := [.slice x.a x.n x.c, .int .i64 (i : Int)]) Tryz.func51 rfl Tryz.ntmps51 (rs := [.tmp 4]) Tryz.results51 (le_b rfl) (le_b rfl) d ?_
 refine sq9 ?_
 refine zza 4 (.v (.slice none 0 0)) ?_
 refine zzb 46 [(0, .v x.v), (1, .v (.int .i64 (i : Int)))] [] ?_
 refine sq9 ?_
 refine zza 10 (.v x.v) ?_
 refine zza 11 (.v (.int .i64 (i : Int))) ?_
 refine zza 12 (.v (.int .i64 (i : Int))) ?_
 have hl11 := hx.len
 have hc11 := hx.cap
 refine sy_front3 13 (n := x.n) (c := x.c) i sl28 rfl rfl (by omega) ?_
 refine zzf 14 52 [.slice x.a i i] ?_
 intro w12 u12 e12 d12
 have k17 := k_stepUpG d12 ((pol_take3 hx (by omega)).ext e12) (by rw [List.length_take]; omega) (by omega) (Nt.small_take hz i)
 with_reducible refine zPm k17 ?_
 rintro _ u15 g16 ⟨y13, rfl, h14⟩
 rw [List.length_take, Nat.min_eq_left (by omega), Nt.upL_take _ (Nat.le_refl _)] at h14
 have hly13 := h14.len
 have hmy13 := Nt.zzg (Nt.upL l i)
 rw [Nt.upL_len] at hmy13
 have hky13 := Nt.upK_le8 (show i ≤ 8 by omega)
 refine zza 9 (.v (.tuple #[y13.v, .int .i64 0])) ?_
 refine zza 15 (.v y13.v) ?_
 refine zza 16 (.v (.int .i64 0)) ?_
 refine zza 5 (.v y13.v) ?_
 refine zza 6 (.v (.int .i64 0)) ?_
 refine zzb 46 [(1, .v (.int .i64 (i : Int))), (5, .v y13.v)] [] ?_
 refine sq9 ?_
 refine zza 17 (.v (.int .i64 (i : Int))) ?_
 refine zyp 18 (x := .v (.int .i64 (IntKind.i64.wrap ((i : Int) + 1)))) (.v (.int .i64 ((i + 1 : Nat) : Int))) (eqI (by rw [IntWalk.i64_in _ (by omega)]; omega)) ?_
 refine sy_make 19 (T := 29) (E := 41) (z := .agg #[.bool false, .slice none 0 0, .slice none 0 0]) (size := 3) (bytes := 56) (i + 1) (rcs (List.replicate (i + 1) rl0)) (by kernel_rfl) (by kernel_rfl) rfl rfl (by omega) (by unfold maxLen; omega) (made_rcs _) ?_
 refine zza 7 (.slc 19 0 (i + 1) (i + 1)) ?_
 refine zzb 46 [(1, .v (.int .i64 (i : Int))), (5, .v y13.v), (7, .slc 19 0 (i + 1) (i + 1))] [(19, ⟨41, rcs (List.replicate (i + 1) rl0)⟩)] ?_
 refine zzc ?_
 refine sq9 ?_
 refine zza 20 (.slc 19 0 (i + 1) (i + 1)) ?_
 refine zza 21 (.v (.int .i64 ((i + 1 : Nat) : Int))) ?_
 refine zza 22 (.v (.int .i64 0)) ?_
 refine zzb 46 [(1, .v (.int .i64 (i : Int))), (5, .v y13.v), (7, .slc 19 0 (i + 1) (i + 1)), (21, .v (.int .i64 ((i + 1 : Nat) : Int))), (22, .v (.int .i64 0))] [(19, ⟨41, rcs (List.replicate (i + 1) rl0)⟩)] ?_
 refine zzs ?_
 refine zym (I := fun m18 S' u' => ∃ (j : Nat) (L : List RL), (m18 = i + 1 - j) ∧ (j ≤ i + 1) ∧ (L.length = i + 1) ∧ (S' = St.of 46 [(1, .v (.int .i64 (i : Int))), (5, .v (.slice y13.a y13.n y13.c)), (7, .slc 19 0 (i + 1) (i + 1)), (21, .v (.int .i64 ((i + 1 : Nat) : Int))), (22, .v (.int .i64 (j : Int)))] [(19, ⟨41, rcs L⟩)]) ∧ (Ext u15 u') ∧ (RatsN u' (L.take j) ((Nt.revL l i).take j) (Nt.upK i))) (fun m S u1 u2 e h => by obtain ⟨j, L, hm, p0, p1, hS, hE, f0⟩ := h; exact ⟨j, L, hm, p0, p1, hS, hE.trans e, f0.ext e⟩) _ (T := St.of 46 [(1, .v (.int .i64 (i : Int))), (5, .v (.slice y13.a y13.n y13.c)), (7, .slc 19 0 (i + 1) (i + 1)), (21, .v (.int .i64 ((i + 1 : Nat) : Int))), (22, .v (.int .i64 0))] [(19, ⟨41, rcs (List.replicate (i + 1) rl0)⟩)]) (by exact zzu _ _ _) ⟨0, List.replicate (i + 1) rl0, rfl, by omega, by simp, rfl, (Ext.refl _), RatsN.tnil _ _ _ _⟩ ?_
 rintro m18 _ u18 ⟨j, L, hm18, hj, hL, rfl, e18, hR⟩
 refine sq9 ?_
 refine zza 23 (.v (.bool (decide ((j : Int) < ((i + 1 : Nat) : Int))))) ?_
 refine zzb 46 [(1, .v (.int .i64 (i : Int))), (5, .v y13.v), (7, .slc 19 0 (i + 1) (i + 1)), (21, .v (.int .i64 ((i + 1 : Nat) : Int))), (22, .v (.int .i64 (j : Int))), (23, .v (.bool (decide ((j : Int) < ((i + 1 : Nat) : Int)))))] [(19, ⟨41, rcs L⟩)] ?_
 refine zzc ?_
 refine zzt (b := decide ((j : Int) < ((i + 1 : Nat) : Int))) (by kernel_rfl) (fun hb19 => ?_) (fun hb19 => ?_)
 ·replace hb19 : (decide ((j : Int) < ((i + 1 : Nat) : Int))) = true := hb19
  have qhb19 := of_decide_eq_true hb19
  refine zzr (zzo ?_)
  refine zzc ?_
  refine zzs ?_
  refine sq9 ?_
  refine zza 24 (.v (.int .i64 (j : Int))) ?_
  refine zza 8 (.v (.int .i64 (j : Int))) ?_
  refine zzb 46 [(1, .v (.int .i64 (i : Int))), (5, .v y13.v), (7, .slc 19 0 (i + 1) (i + 1)), (8, .v (.int .i64 (j : Int))), (21, .v (.int .i64 ((i + 1 : Nat) : Int))), (22, .v (.int .i64 (j : Int)))] [(19, ⟨41, rcs L⟩)] ?_
  refine sq9 ?_
  refine zza 25 (.slc 19 0 (i + 1) (i + 1)) ?_
  refine zza 26 (.v (.int .i64 (j : Int))) ?_
  refine zzf 27 61 [.int .i64 0] ?_
  intro w20 u20 e20 d20
  have k25 := k_ratOf d20 (z := 0) (by omega) (by omega)
  with_reducible refine zPm k25 ?_
  rintro _ u23 g24 ⟨r21, rfl, h22⟩
  refine zyv 28 (off' := j * 3) (n := i + 1) (off := 0) (sz := 3) (i := (j : Int)) sl29 (by omega) (by omega) (by omega) ?_
  refine zyu (V := ⟨41, rcs L⟩) (off := j * 3) (rcs ((L).set j r21)) ty41 (by rw [zyx]; first|omega|(simp;omega)) (zyw (r := r21) (i := j) (by first|omega|(simp;omega)) rfl) ?_
  refine zzb 46 [(1, .v (.int .i64 (i : Int))), (5, .v y13.v), (7, .slc 19 0 (i + 1) (i + 1)), (8, .v (.int .i64 (j : Int))), (21, .v (.int .i64 ((i + 1 : Nat) : Int))), (22, .v (.int .i64 (j : Int)))] [(19, ⟨41, rcs ((L).set j r21)⟩)] ?_
  refine sq9 ?_
  refine zza 29 (.v (.int .i64 (i : Int))) ?_
  refine zza 30 (.v (.int .i64 (j : Int))) ?_
  refine zyp 31 (x := .v (.int .i64 (IntKind.i64.wrap ((i : Int) - (j : Int))))) (.v (.int .i64 ((i - j : Nat) : Int))) (eqI (by rw [IntWalk.i64_in _ (by omega)]; omega)) ?_
  refine zza 32 (.v y13.v) ?_
  refine zza 33 (.v (.int .i64 (y13.n : Int))) ?_
  refine zza 34 (.v (.bool (decide (((i - j : Nat) : Int) < (y13.n : Int))))) ?_
  refine zzb 46 [(1, .v (.int .i64 (i : Int))), (5, .v y13.v), (7, .slc 19 0 (i + 1) (i + 1)), (8, .v (.int .i64 (j : Int))), (21, .v (.int .i64 ((i + 1 : Nat) : Int))), (22, .v (.int .i64 (j : Int))), (34, .v (.bool (decide (((i - j : Nat) : Int) < (y13.n : Int)))))] [(19, ⟨41, rcs ((L).set j r21)⟩)] ?_
  refine zzt (b := decide (((i - j : Nat) : Int) < (y13.n : Int))) (by kernel_rfl) (fun hb26 => ?_) (fun hb26 => ?_)
  ·replace hb26 : (decide (((i - j : Nat) : Int) < (y13.n : Int))) = true := hb26
   have qhb26 := of_decide_eq_true hb26
   refine zze ?_
   refine zza 35 (.slc 19 0 (i + 1) (i + 1)) ?_
   refine zza 36 (.v (.int .i64 (j : Int))) ?_
   refine zza 37 (.v y13.v) ?_
   refine zza 38 (.v (.int .i64 (i : Int))) ?_
   refine zza 39 (.v (.int .i64 (j : Int))) ?_
   refine zyp 40 (x := .v (.int .i64 (IntKind.i64.wrap ((i : Int) - (j : Int))))) (.v (.int .i64 ((i - j : Nat) : Int))) (eqI (by rw [IntWalk.i64_in _ (by omega)]; omega)) ?_
   have hl27 := (h14.ext (e18.trans (e20.trans g24.ext))).len
   obtain ⟨r27, b27, o27, hA27, hc27, hr27⟩ := pol_atN (h14.ext (e18.trans (e20.trans g24.ext))) (i := i - j) (by omega)
   refine zzz 41 (o27 + (i - j) * 3) (n := y13.n) (off := o27) (sz := 3) (i := ((i - j : Nat) : Int)) (by omega) hA27 (by omega) (by omega) sl29 ?_
   refine zyl 42 r27.cs hc27 ty41 ?_
   refine zyv 43 (off' := j * 3) (n := i + 1) (off := 0) (sz := 3) (i := (j : Int)) sl29 (by omega) (by omega) (by omega) ?_
   refine zyu (V := ⟨41, rcs ((L).set j r21)⟩) (off := j * 3) (rcs ((L).set j r27)) ty41 (by rw [zyx]; first|omega|(simp;omega)) ((zyw (r := r27) (i := j) (by first|omega|(simp;omega)) rfl).trans (by rw [List.set_set])) ?_
   refine zzw ?_
   refine zzo ?_
   refine zze ?_
   refine zyp 44 (x := .v (.int .i64 (IntKind.i64.wrap ((j : Int) + 1)))) (.v (.int .i64 ((j + 1 : Nat) : Int))) (eqI (by rw [IntWalk.i64_in _ (by omega)]; omega)) ?_
   refine zza 22 (.v (.int .i64 ((j + 1 : Nat) : Int))) ?_
   refine zzw ?_
   have ht9 : j < (Nt.revL l i).length := by rw [Nt.revL_len]; omega
   refine ⟨_, ?_, St.of 46 [(1, .v (.int .i64 (i : Int))), (5, .v (.slice y13.a y13.n y13.c)), (7, .slc 19 0 (i + 1) (i + 1)), (21, .v (.int .i64 ((i + 1 : Nat) : Int))), (22, .v (.int .i64 ((j + 1 : Nat) : Int)))] [(19, ⟨41, rcs ((L).set j r27)⟩)], by exact zzu _ _ _, j + 1, (L).set j r27, rfl, by omega, by simpa using hL, rfl, (e18.trans (e20.trans g24.ext)), RatsN.tstep (hR.ext (e20.trans g24.ext)) (by omega) ht9 (RatN.more (K := (Nt.upK i)) hr27 (by omega)) (by rw [Nt.revL_at l (by omega)]; exact Nt.trimD _ _)⟩
   omega
  ·replace hb26 : (decide (((i - j : Nat) : Int) < (y13.n : Int))) = false := hb26
   have qhb26 := of_decide_eq_false hb26
   refine zzr (zzo ?_)
   refine zze ?_
   refine zyp 44 (x := .v (.int .i64 (IntKind.i64.wrap ((j : Int) + 1)))) (.v (.int .i64 ((j + 1 : Nat) : Int))) (eqI (by rw [IntWalk.i64_in _ (by omega)]; omega)) ?_
   refine zza 22 (.v (.int .i64 ((j + 1 : Nat) : Int))) ?_
   refine zzw ?_
   have ht9 : j < (Nt.revL l i).length := by rw [Nt.revL_len]; omega
   refine ⟨_, ?_, St.of 46 [(1, .v (.int .i64 (i : Int))), (5, .v (.slice y13.a y13.n y13.c)), (7, .slc 19 0 (i + 1) (i + 1)), (21, .v (.int .i64 ((i + 1 : Nat) : Int))), (22, .v (.int .i64 ((j + 1 : Nat) : Int)))] [(19, ⟨41, rcs ((L).set j r21)⟩)], by exact zzu _ _ _, j + 1, (L).set j r21, rfl, by omega, by simpa using hL, rfl, (e18.trans (e20.trans g24.ext)), RatsN.tstep (hR.ext (e20.trans g24.ext)) (by omega) ht9 (RatN.more (K := 2) h22 (by omega)) (by rw [Nt.revL_at l (by omega), ← Nt.trimD]; exact (Nt.co_ge (by omega)).symm)⟩
   omega
 ·replace hb19 : (decide ((j : Int) < ((i + 1 : Nat) : Int))) = false := hb19
  have qhb19 := of_decide_eq_false hb19
  refine zyb ?_
  refine zzo ?_
  refine zzc ?_
  refine zyo (r := 7) (t := 19) [7, 19] (by repeat first | exact noAt_of | refine zyc ?_ | refine zye ?_ | refine zyd ?_ | refine zzx ?_ | refine zya ?_) (by kernel_rfl) (by rfl) (by rfl) (by kernel_rfl) (fun b28 u29 e30 hb31 hh32 => ?_)
  have hp33 : PolN u29 ⟨some ⟨b28, 0, none⟩, i + 1, i + 1⟩ (Nt.revL l i) (Nt.upK i) := pol_data1 hh32 (by unfold maxLen; omega) (RatsN.tdone (hR.ext e30) (by omega) (by rw [Nt.revL_len]; omega)) (by omega)
  refine zze ?_
  refine zza 45 (.v (.slice (some ⟨b28, 0, none⟩) (i + 1) (i + 1))) ?_
  refine zza 4 (.v (.slice (some ⟨b28, 0, none⟩) (i + 1) (i + 1))) ?_
  refine zzb 46 [(4, .v (.slice (some ⟨b28, 0, none⟩) (i + 1) (i + 1)))] [] ?_
  refine zzn (ret0 [.slice (some ⟨b28, 0, none⟩) (i + 1) (i + 1)] ⟨zzp, trivial⟩ fun u34 e35 => ?_)
  exact ⟨(⟨some ⟨b28, 0, none⟩, i + 1, i + 1⟩ : Sl), rfl, (hp33.ext e35)⟩
set_option maxHeartbeats 4000000 in
theorem k_rreversed {u w : World} {x : Sl} {l : List Rat} {M i : Nat} (d : Dat u w) (hx : PolV u x l M) (hl : l.length ≤ 8) (hM : M ≤ 4) (hz : ∀ i, i < l.length → Nt.smallQ (l.getD i 0) = true) (hi : i ≤ l.length) : Calls Tryz.prog 79 #[x.v, .int .i64 (i : Int)] w (Post u w fun v u' => ∃ y : Sl, v = .tuple #[y.v, .int .i64 0] ∧ PolN u' y (Nt.revL l i) (Nt.upK i)) := by
 have hlen := hx.len
 have huk := Nt.upK_succ i
 refine zzl (args := [.slice x.a x.n x.c, .int .i64 (i : Int)]) Tryz.func79 rfl Tryz.ntmps79 (rs := [.tmp 4, .tmp 5]) Tryz.results79 (le_b rfl) (le_b rfl) d ?_
 refine sq9 ?_
 refine zza 4 (.v (.slice none 0 0)) ?_
 refine zza 5 (.v (.int .i64 0)) ?_
 refine zzb 41 [(0, .v x.v), (1, .v (.int .i64 (i : Int)))] [] ?_
 refine sq9 ?_
 refine zza 11 (.v x.v) ?_
 refine zza 12 (.v (.int .i64 (i : Int))) ?_
 have hl11 := hx.len
 have hc11 := hx.cap
 refine sy_front 13 (n := x.n) (c := x.c) i sl28 rfl (by omega) ?_
 refine zzf 14 78 [.slice x.a i x.c] ?_
 intro w12 u12 e12 d12
 have k17 := k_rstepUpG d12 ((pol_take hx (by omega)).ext e12) (by rw [List.length_take]; omega) (by omega) (Nt.small_take hz i)
 with_reducible refine zPm k17 ?_
 rintro _ u15 g16 ⟨y13, rfl, h14⟩
 rw [List.length_take, Nat.min_eq_left (by omega), Nt.upL_take _ (Nat.le_refl _)] at h14
 have hly13 := h14.len
 have hmy13 := Nt.zzg (Nt.upL l i)
 rw [Nt.upL_len] at hmy13
 have hky13 := Nt.upK_le8 (show i ≤ 8 by omega)
 refine zza 10 (.v (.tuple #[y13.v, .int .i64 0])) ?_
 refine zza 15 (.v y13.v) ?_
 refine zza 16 (.v (.int .i64 0)) ?_
 refine zza 6 (.v y13.v) ?_
 refine zza 7 (.v (.int .i64 0)) ?_
 refine zzb 41 [(1, .v (.int .i64 (i : Int))), (6, .v y13.v), (7, .v (.int .i64 0))] [] ?_
 refine zzc ?_
 refine sq9 ?_
 refine zza 17 (.v (.int .i64 0)) ?_
 refine zza 18 (.v (.bool false)) ?_
 refine zzb 41 [(1, .v (.int .i64 (i : Int))), (6, .v y13.v), (7, .v (.int .i64 0)), (18, .v (.bool false))] [] ?_
 refine zyr (by kernel_rfl) ?_
 refine zzr (zzo ?_)
 refine sq9 ?_
 refine zza 8 (.v (.slice none 0 0)) ?_
 refine zzb 41 [(1, .v (.int .i64 (i : Int))), (6, .v y13.v), (8, .v (.slice none 0 0))] [] ?_
 refine zzc ?_
 refine sq9 ?_
 refine zza 20 (.v (.int .i64 (i : Int))) ?_
 refine zza 9 (.v (.int .i64 (i : Int))) ?_
 refine zzb 41 [(6, .v y13.v), (8, .v (.slice none 0 0)), (9, .v (.int .i64 (i : Int)))] [] ?_
 refine zzs ?_
 refine zym (I := fun m18 S' u' => (m18 = (i + 1) ∧ S' = St.of 41 [(6, .v (.slice y13.a y13.n y13.c)), (8, .v (.slice none 0 0)), (9, .v (.int .i64 ((i : Int) - ((0 : Nat) : Int))))] [] ∧ Ext u15 u') ∨ (∃ (i2 : Nat) (L2 : List RL) (cs2 : List Value) (cp2 : Nat), m18 = (i + 1) - i2 ∧ i2 ≤ (i + 1) ∧ 0 < i2 ∧ L2.length = i2 ∧ cs2.length = cp2 * 3 ∧ i2 ≤ cp2 ∧ cp2 ≤ maxLen ∧ cs2.take (i2 * 3) = rcs L2 ∧ S' = St.of 41 [(6, .v (.slice y13.a y13.n y13.c)), (8, .slc 35 0 i2 cp2), (9, .v (.int .i64 ((i : Int) - ((i2 : Nat) : Int))))] [(35, ⟨41, cs2⟩)] ∧ Ext u15 u' ∧ RatsN u' L2 ((Nt.revL l i).take i2) (Nt.upK i))) (fun m S u1 u2 e h => by rcases h with ⟨a, b, c⟩ | ⟨a1, a2, a3, a4, b1, b2, b3, b4, b5, b6, b7, b8, b9, b10, b11⟩; exact .inl ⟨a, b, c.trans e⟩; exact .inr ⟨a1, a2, a3, a4, b1, b2, b3, b4, b5, b6, b7, b8, b9, b10.trans e, b11.ext e⟩) _ (T := St.of 41 [(6, .v (.slice y13.a y13.n y13.c)), (8, .v (.slice none 0 0)), (9, .v (.int .i64 ((i : Int) - ((0 : Nat) : Int))))] []) (by exact zzu _ _ _) (.inl ⟨rfl, rfl, Ext.refl _⟩) ?_
 rintro m18 _ u18 (⟨hm18, rfl, e18⟩ | ⟨i2, L2, cs2, cp2, hm18, hi2, hp2, hL2, hc2, hle2, hmx2, ht2, rfl, e18, hR2⟩)
 ·change SW _ _ _ _ (St.of 41 [(6, .v (.slice y13.a y13.n y13.c)), (8, .v (.slice none 0 0)), (9, .v (.int .i64 ((i : Int) - ((0 : Nat) : Int))))] []) _ _
  refine zzc ?_
  refine sq9 ?_
  refine zza 21 (.v (.int .i64 ((i : Int) - ((0 : Nat) : Int)))) ?_
  refine zza 22 (.v (.bool (decide ((0 : Int) ≤ ((i : Int) - ((0 : Nat) : Int)))))) ?_
  refine zzb 41 [(6, .v y13.v), (8, .v (.slice none 0 0)), (9, .v (.int .i64 ((i : Int) - ((0 : Nat) : Int)))), (22, .v (.bool (decide ((0 : Int) ≤ ((i : Int) - ((0 : Nat) : Int))))))] [] ?_
  refine zzt (b := decide ((0 : Int) ≤ ((i : Int) - ((0 : Nat) : Int)))) (by kernel_rfl) (fun hb => ?_) (fun hb => ?_)
  ·clear hb
   refine zzr (zzo ?_)
   refine zzc ?_
   refine zzs ?_
   refine zzc ?_
   rw [show (i : Int) - ((0 : Nat) : Int) = ((i - 0 : Nat) : Int) by omega]
   refine zze ?_
   refine zza 25 (.v (.int .i64 ((i - 0 : Nat) : Int))) ?_
   refine zza 26 (.v y13.v) ?_
   refine zza 27 (.v (.int .i64 (y13.n : Int))) ?_
   refine zza 28 (.v (.bool (decide (((i - 0 : Nat) : Int) < (y13.n : Int))))) ?_
   refine zzb 41 [(6, .v y13.v), (8, .v (.slice none 0 0)), (9, .v (.int .i64 ((i - 0 : Nat) : Int))), (28, .v (.bool (decide (((i - 0 : Nat) : Int) < (y13.n : Int)))))] [] ?_
   refine zzt (b := decide (((i - 0 : Nat) : Int) < (y13.n : Int))) (by kernel_rfl) (fun hb19 => ?_) (fun hb19 => ?_)
   ·replace hb19 : (decide (((i - 0 : Nat) : Int) < (y13.n : Int))) = true := hb19
    have qhb19 := of_decide_eq_true hb19
    refine zze ?_
    refine zza 29 (.v (.slice none 0 0)) ?_
    refine zza 30 (.v y13.v) ?_
    refine zza 31 (.v (.int .i64 ((i - 0 : Nat) : Int))) ?_
    have hl20 := (h14.ext e18).len
    obtain ⟨r20, b20, o20, hA20, hc20, hr20⟩ := pol_atN (h14.ext e18) (i := i - 0) (by omega)
    refine zzz 32 (o20 + (i - 0) * 3) (n := y13.n) (off := o20) (sz := 3) (i := ((i - 0 : Nat) : Int)) (by omega) hA20 (by omega) (by omega) sl29 ?_
    refine zyl 33 r20.cs hc20 ty41 ?_
    refine sy_data 34 ⟨41, r20.cs⟩ 1 (fun b21 u22 e23 h24 => ?_)
    have hp25 : PolN u22 (⟨some ⟨b21, 0, none⟩, 1, 1⟩ : Sl) [((Nt.trimQ (Nt.upL l i)).getD (i - 0) 0)] (Nt.upK i) := pol_lit (L := [r20]) h24 (rats1 (hr20.ext e23)) rfl (by decide)
    refine sy_app0 35 (T := 29) (E := 41) (z := .agg #[.bool false, .slice none 0 0, .slice none 0 0]) (size := 3) (bytes := 56) (b := b21) (off := 0) (m := 1) r20.cs (by kernel_rfl) (by kernel_rfl) (by kernel_rfl) (by decide) rfl (lit_news ((Ext.refl _).cells h24)) (rl_one r20) (by decide) (by decide) (by decide) ?_
    intro c26 cs26 ha26 hb26 hc26 hd26
    refine zza 8 (.slc 35 0 1 c26) ?_
    refine zzw ?_
    refine zzo ?_
    refine zze ?_
    refine zza 23 (.v (.int .i64 ((i - 0 : Nat) : Int))) ?_
    refine zyp 24 (x := .v (.int .i64 (IntKind.i64.wrap (((i - 0 : Nat) : Int) - 1)))) (.v (.int .i64 ((i : Int) - ((1 : Nat) : Int)))) (eqI (by rw [IntWalk.i64_in _ (by omega)]; omega)) ?_
    refine zza 9 (.v (.int .i64 ((i : Int) - ((1 : Nat) : Int)))) ?_
    refine zzw ?_
    have ht27 : 0 < (Nt.revL l i).length := by rw [Nt.revL_len]; omega
    refine ⟨_, ?_, St.of 41 [(6, .v (.slice y13.a y13.n y13.c)), (8, .slc 35 0 1 c26), (9, .v (.int .i64 ((i : Int) - ((1 : Nat) : Int))))] [(35, ⟨41, cs26⟩)], by exact zzu _ _ _, .inr ⟨1, [r20], cs26, c26, rfl, by omega, by omega, by simp, hc26, by omega, hb26, hd26, rfl, (e18.trans e23), (app_first (RatN.more (K := (Nt.upK i)) (hr20.ext e23) (by omega)) ht27 (by rw [Nt.revL_at l (by omega)]; exact Nt.trimD _ _))⟩⟩
    omega
   ·replace hb19 : (decide (((i - 0 : Nat) : Int) < (y13.n : Int))) = false := hb19
    have qhb19 := of_decide_eq_false hb19
    refine zze ?_
    refine zza 36 (.v (.slice none 0 0)) ?_
    refine zzf 37 13 [.int .i64 0] ?_
    intro w28 u28 e28 d28
    have k33 := k_rqOf d28 (z := 0) (by omega) (by omega)
    with_reducible refine zPm k33 ?_
    rintro _ u31 g32 ⟨r29, rfl, h30⟩
    refine sy_data 38 ⟨41, r29.cs⟩ 1 (fun b34 u35 e36 h37 => ?_)
    have hp38 : PolN u35 (⟨some ⟨b34, 0, none⟩, 1, 1⟩ : Sl) [((0 : Int) : Rat)] 2 := pol_lit (L := [r29]) h37 (rats1 (h30.ext e36)) rfl (by decide)
    refine sy_app0 39 (T := 29) (E := 41) (z := .agg #[.bool false, .slice none 0 0, .slice none 0 0]) (size := 3) (bytes := 56) (b := b34) (off := 0) (m := 1) r29.cs (by kernel_rfl) (by kernel_rfl) (by kernel_rfl) (by decide) rfl (lit_news ((Ext.refl _).cells h37)) (rl_one r29) (by decide) (by decide) (by decide) ?_
    intro c39 cs39 ha39 hb39 hc39 hd39
    refine zza 8 (.slc 39 0 1 c39) ?_
    refine zzw ?_
    refine zzo ?_
    refine sw_ren (r := 8) (t := 39) 35 [8, 39] (by repeat first | exact noAt_of | refine zyc ?_ | refine zye ?_ | refine zyd ?_ | refine zzx ?_ | refine zya ?_) (by kernel_rfl) (by rfl) (by rfl) (by kernel_rfl) (by kernel_rfl) ?_
    refine zze ?_
    refine zza 23 (.v (.int .i64 ((i - 0 : Nat) : Int))) ?_
    refine zyp 24 (x := .v (.int .i64 (IntKind.i64.wrap (((i - 0 : Nat) : Int) - 1)))) (.v (.int .i64 ((i : Int) - ((1 : Nat) : Int)))) (eqI (by rw [IntWalk.i64_in _ (by omega)]; omega)) ?_
    refine zza 9 (.v (.int .i64 ((i : Int) - ((1 : Nat) : Int)))) ?_
    refine zzw ?_
    have ht40 : 0 < (Nt.revL l i).length := by rw [Nt.revL_len]; omega
    refine ⟨_, ?_, St.of 41 [(6, .v (.slice y13.a y13.n y13.c)), (8, .slc 35 0 1 c39), (9, .v (.int .i64 ((i : Int) - ((1 : Nat) : Int))))] [(35, ⟨41, cs39⟩)], by exact zzu _ _ _, .inr ⟨1, [r29], cs39, c39, rfl, by omega, by omega, by simp, hc39, by omega, hb39, hd39, rfl, (e18.trans (e28.trans (g32.ext.trans e36))), (app_first (RatN.more (K := 2) (h30.ext e36) (by omega)) ht40 (by rw [Nt.revL_at l (by omega), ← Nt.trimD]; exact (Nt.co_ge (by omega)).symm))⟩⟩
    omega
  ·exact absurd hb (by rw [show (decide ((0 : Int) ≤ ((i : Int) - ((0 : Nat) : Int)))) = true from decide_eq_true (by omega)]; decide)
 ·change SW _ _ _ _ (St.of 41 [(6, .v (.slice y13.a y13.n y13.c)), (8, .slc 35 0 i2 cp2), (9, .v (.int .i64 ((i : Int) - ((i2 : Nat) : Int))))] [(35, ⟨41, cs2⟩)]) _ _
  refine zzc ?_
  refine sq9 ?_
  refine zza 21 (.v (.int .i64 ((i : Int) - ((i2 : Nat) : Int)))) ?_
  refine zza 22 (.v (.bool (decide ((0 : Int) ≤ ((i : Int) - ((i2 : Nat) : Int)))))) ?_
  refine zzb 41 [(6, .v y13.v), (8, .slc 35 0 i2 cp2), (9, .v (.int .i64 ((i : Int) - ((i2 : Nat) : Int)))), (22, .v (.bool (decide ((0 : Int) ≤ ((i : Int) - ((i2 : Nat) : Int))))))] [(35, ⟨41, cs2⟩)] ?_
  refine zzt (b := decide ((0 : Int) ≤ ((i : Int) - ((i2 : Nat) : Int)))) (by kernel_rfl) (fun hb41 => ?_) (fun hb41 => ?_)
  ·replace hb41 : (decide ((0 : Int) ≤ ((i : Int) - ((i2 : Nat) : Int)))) = true := hb41
   have qhb41 := of_decide_eq_true hb41
   refine zzr (zzo ?_)
   refine zzc ?_
   refine zzs ?_
   refine zzc ?_
   rw [show (i : Int) - ((i2 : Nat) : Int) = ((i - i2 : Nat) : Int) by omega]
   refine zze ?_
   refine zza 25 (.v (.int .i64 ((i - i2 : Nat) : Int))) ?_
   refine zza 26 (.v y13.v) ?_
   refine zza 27 (.v (.int .i64 (y13.n : Int))) ?_
   refine zza 28 (.v (.bool (decide (((i - i2 : Nat) : Int) < (y13.n : Int))))) ?_
   refine zzb 41 [(6, .v y13.v), (8, .slc 35 0 i2 cp2), (9, .v (.int .i64 ((i - i2 : Nat) : Int))), (28, .v (.bool (decide (((i - i2 : Nat) : Int) < (y13.n : Int)))))] [(35, ⟨41, cs2⟩)] ?_
   refine zzt (b := decide (((i - i2 : Nat) : Int) < (y13.n : Int))) (by kernel_rfl) (fun hb42 => ?_) (fun hb42 => ?_)
   ·replace hb42 : (decide (((i - i2 : Nat) : Int) < (y13.n : Int))) = true := hb42
    have qhb42 := of_decide_eq_true hb42
    refine zze ?_
    refine zza 29 (.slc 35 0 i2 cp2) ?_
    refine zza 30 (.v y13.v) ?_
    refine zza 31 (.v (.int .i64 ((i - i2 : Nat) : Int))) ?_
    have hl43 := (h14.ext e18).len
    obtain ⟨r43, b43, o43, hA43, hc43, hr43⟩ := pol_atN (h14.ext e18) (i := i - i2) (by omega)
    refine zzz 32 (o43 + (i - i2) * 3) (n := y13.n) (off := o43) (sz := 3) (i := ((i - i2 : Nat) : Int)) (by omega) hA43 (by omega) (by omega) sl29 ?_
    refine zyl 33 r43.cs hc43 ty41 ?_
    refine sy_data 34 ⟨41, r43.cs⟩ 1 (fun b44 u45 e46 h47 => ?_)
    have hp48 : PolN u45 (⟨some ⟨b44, 0, none⟩, 1, 1⟩ : Sl) [((Nt.trimQ (Nt.upL l i)).getD (i - i2) 0)] (Nt.upK i) := pol_lit (L := [r43]) h47 (rats1 (hr43.ext e46)) rfl (by decide)
    refine sy_app1 35 (T := 29) (E := 41) (z := .agg #[.bool false, .slice none 0 0, .slice none 0 0]) (size := 3) (bytes := 56) (b := b44) (off := 0) (m := 1) (n := i2) (cap := cp2) (t := 35) (cs0 := cs2) [8, 29, 35] r43.cs (by kernel_rfl) (by kernel_rfl) (by kernel_rfl) (by decide) rfl (lit_news ((Ext.refl _).cells h47)) (rl_one r43) (by decide) (by unfold maxLen; omega) (by omega) (by omega) (by omega) (by omega) (by repeat first | exact noAt_of | refine zyc ?_ | refine zye ?_ | refine zyd ?_ | refine zzx ?_ | refine zya ?_) ?_
    intro c49 cs49 ha49 hb49 hc49 hd49
    have hd49r : cs49.take ((i2 + 1) * 3) = rcs (L2 ++ [r43]) := by rw [hd49, ht2, rcs_app]; rfl
    refine zza 8 (.slc 35 0 (i2 + 1) c49) ?_
    refine zzw ?_
    refine zzo ?_
    refine zze ?_
    refine zza 23 (.v (.int .i64 ((i - i2 : Nat) : Int))) ?_
    refine zyp 24 (x := .v (.int .i64 (IntKind.i64.wrap (((i - i2 : Nat) : Int) - 1)))) (.v (.int .i64 ((i : Int) - ((i2 + 1 : Nat) : Int)))) (eqI (by rw [IntWalk.i64_in _ (by omega)]; omega)) ?_
    refine zza 9 (.v (.int .i64 ((i : Int) - ((i2 + 1 : Nat) : Int)))) ?_
    refine zzw ?_
    have ht50 : i2 < (Nt.revL l i).length := by rw [Nt.revL_len]; omega
    refine ⟨_, ?_, St.of 41 [(6, .v (.slice y13.a y13.n y13.c)), (8, .slc 35 0 (i2 + 1) c49), (9, .v (.int .i64 ((i : Int) - ((i2 + 1 : Nat) : Int))))] [(35, ⟨41, cs49⟩)], by exact zzu _ _ _, .inr ⟨i2 + 1, L2 ++ [r43], cs49, c49, rfl, by omega, by omega, by simp; omega, hc49, by omega, hb49, hd49r, rfl, (e18.trans e46), (app_next (hR2.ext e46) (RatN.more (K := (Nt.upK i)) (hr43.ext e46) (by omega)) ht50 (by rw [Nt.revL_at l (by omega)]; exact Nt.trimD _ _))⟩⟩
    omega
   ·replace hb42 : (decide (((i - i2 : Nat) : Int) < (y13.n : Int))) = false := hb42
    have qhb42 := of_decide_eq_false hb42
    refine zze ?_
    refine zza 36 (.slc 35 0 i2 cp2) ?_
    refine zzf 37 13 [.int .i64 0] ?_
    intro w51 u51 e51 d51
    have k56 := k_rqOf d51 (z := 0) (by omega) (by omega)
    with_reducible refine zPm k56 ?_
    rintro _ u54 g55 ⟨r52, rfl, h53⟩
    refine sy_data 38 ⟨41, r52.cs⟩ 1 (fun b57 u58 e59 h60 => ?_)
    have hp61 : PolN u58 (⟨some ⟨b57, 0, none⟩, 1, 1⟩ : Sl) [((0 : Int) : Rat)] 2 := pol_lit (L := [r52]) h60 (rats1 (h53.ext e59)) rfl (by decide)
    refine sy_app1 39 (T := 29) (E := 41) (z := .agg #[.bool false, .slice none 0 0, .slice none 0 0]) (size := 3) (bytes := 56) (b := b57) (off := 0) (m := 1) (n := i2) (cap := cp2) (t := 35) (cs0 := cs2) [8, 35, 36, 39] r52.cs (by kernel_rfl) (by kernel_rfl) (by kernel_rfl) (by decide) rfl (lit_news ((Ext.refl _).cells h60)) (rl_one r52) (by decide) (by unfold maxLen; omega) (by omega) (by omega) (by omega) (by omega) (by repeat first | exact noAt_of | refine zyc ?_ | refine zye ?_ | refine zyd ?_ | refine zzx ?_ | refine zya ?_) ?_
    intro c62 cs62 ha62 hb62 hc62 hd62
    have hd62r : cs62.take ((i2 + 1) * 3) = rcs (L2 ++ [r52]) := by rw [hd62, ht2, rcs_app]; rfl
    refine zza 8 (.slc 39 0 (i2 + 1) c62) ?_
    refine zzw ?_
    refine zzo ?_
    refine sw_ren (r := 8) (t := 39) 35 [8, 39] (by repeat first | exact noAt_of | refine zyc ?_ | refine zye ?_ | refine zyd ?_ | refine zzx ?_ | refine zya ?_) (by kernel_rfl) (by rfl) (by rfl) (by kernel_rfl) (by kernel_rfl) ?_
    refine zze ?_
    refine zza 23 (.v (.int .i64 ((i - i2 : Nat) : Int))) ?_
    refine zyp 24 (x := .v (.int .i64 (IntKind.i64.wrap (((i - i2 : Nat) : Int) - 1)))) (.v (.int .i64 ((i : Int) - ((i2 + 1 : Nat) : Int)))) (eqI (by rw [IntWalk.i64_in _ (by omega)]; omega)) ?_
    refine zza 9 (.v (.int .i64 ((i : Int) - ((i2 + 1 : Nat) : Int)))) ?_
    refine zzw ?_
    have ht63 : i2 < (Nt.revL l i).length := by rw [Nt.revL_len]; omega
    refine ⟨_, ?_, St.of 41 [(6, .v (.slice y13.a y13.n y13.c)), (8, .slc 35 0 (i2 + 1) c62), (9, .v (.int .i64 ((i : Int) - ((i2 + 1 : Nat) : Int))))] [(35, ⟨41, cs62⟩)], by exact zzu _ _ _, .inr ⟨i2 + 1, L2 ++ [r52], cs62, c62, rfl, by omega, by omega, by simp; omega, hc62, by omega, hb62, hd62r, rfl, (e18.trans (e51.trans (g55.ext.trans e59))), (app_next (hR2.ext (e51.trans (g55.ext.trans e59))) (RatN.more (K := 2) (h53.ext e59) (by omega)) ht63 (by rw [Nt.revL_at l (by omega), ← Nt.trimD]; exact (Nt.co_ge (by omega)).symm))⟩⟩
    omega
  ·replace hb41 : (decide ((0 : Int) ≤ ((i : Int) - ((i2 : Nat) : Int)))) = false := hb41
   have qhb41 := of_decide_eq_false hb41
   refine zyb ?_
   refine zzo ?_
   refine zzc ?_
   refine zyo (r := 8) (t := 35) [8, 35] (by repeat first | exact noAt_of | refine zyc ?_ | refine zye ?_ | refine zyd ?_ | refine zzx ?_ | refine zya ?_) (by kernel_rfl) (by rfl) (by rfl) (by kernel_rfl) (fun b65 u66 e67 hb68 hh69 => ?_)
   have hp64 : PolN u66 ⟨some ⟨b65, 0, none⟩, i2, cp2⟩ (Nt.revL l i) (Nt.upK i) := by have h8 := pol_data hh69 ht2 hc2 hle2 hmx2 (hR2.ext e67); rw [List.take_of_length_le (l := (Nt.revL l i)) (by rw [Nt.revL_len]; omega)] at h8; exact h8
   refine zze ?_
   refine zza 40 (.v (.slice (some ⟨b65, 0, none⟩) i2 cp2)) ?_
   refine zza 4 (.v (.slice (some ⟨b65, 0, none⟩) i2 cp2)) ?_
   refine zza 5 (.v (.int .i64 0)) ?_
   refine zzb 41 [(4, .v (.slice (some ⟨b65, 0, none⟩) i2 cp2)), (5, .v (.int .i64 0))] [] ?_
   refine zzn (ret0 [.slice (some ⟨b65, 0, none⟩) i2 cp2, .int .i64 0] ⟨zzp, zzp, trivial⟩ fun u70 e71 => ?_)
   exact ⟨(⟨some ⟨b65, 0, none⟩, i2, cp2⟩ : Sl), rfl, (hp64.ext e71)⟩
theorem k_sameRats {u w : World} {x y : Sl} {l : List Rat} {K M : Nat} (d : Dat u w) (hx : PolV u x l K) (hy : PolV u y l M) (hK : K ≤ 10000000) (hM : M ≤ 10000000) : Calls Tryz.prog 73 #[x.v, y.v] w (Post u w fun v u' => v = .bool true) := by
 have hlen := hx.len
 have hlen2 := hy.len
 have hmx := hx.max
 unfold maxLen at hmx
 refine zzl (args := [.slice x.a x.n x.c, .slice y.a y.n y.c]) Tryz.func73 rfl Tryz.ntmps73 (rs := [.tmp 4]) Tryz.results73 (le_b rfl) (le_b rfl) d ?_
 refine sq9 ?_
 refine zza 4 (.v (.bool false)) ?_
 refine zzb 27 [(0, .v x.v), (1, .v y.v)] [] ?_
 refine zzc ?_
 refine sq9 ?_
 refine zza 6 (.v x.v) ?_
 refine zza 7 (.v (.int .i64 (x.n : Int))) ?_
 refine zza 8 (.v y.v) ?_
 refine zza 9 (.v (.int .i64 (y.n : Int))) ?_
 refine zza 10 (.v (.bool ((x.n : Int) != (y.n : Int)))) ?_
 refine zzb 27 [(0, .v x.v), (1, .v y.v), (10, .v (.bool ((x.n : Int) != (y.n : Int))))] [] ?_
 refine zzt (b := (x.n : Int) != (y.n : Int)) (by kernel_rfl) (fun hb => ?_) (fun hb => ?_)
 ·exact absurd hb (by rw [show ((x.n : Int) != (y.n : Int)) = false from (by rw [hlen, hlen2]; simp)]; decide)
 ·clear hb
  refine zzr (zzo ?_)
  refine zzc ?_
  refine sq9 ?_
  refine zza 5 (.v (.int .i64 0)) ?_
  refine zzb 27 [(0, .v x.v), (1, .v y.v), (5, .v (.int .i64 0))] [] ?_
  refine zzs ?_
  refine zym (I := fun m11 S' u' => ∃ (i : Nat), (m11 = l.length - i) ∧ (i ≤ l.length) ∧ (S' = St.of 27 [(0, .v (.slice x.a x.n x.c)), (1, .v (.slice y.a y.n y.c)), (5, .v (.int .i64 (i : Int)))] []) ∧ (Ext u u')) (fun m S u1 u2 e h => by obtain ⟨i, hm, p0, hS, hE⟩ := h; exact ⟨i, hm, p0, hS, hE.trans e⟩) _ (T := St.of 27 [(0, .v (.slice x.a x.n x.c)), (1, .v (.slice y.a y.n y.c)), (5, .v (.int .i64 0))] []) (by exact zzu _ _ _) ⟨0, rfl, Nat.zero_le _, rfl, (Ext.refl _)⟩ ?_
  rintro m11 _ u11 ⟨i, hm11, hi, rfl, e11⟩
  refine zzc ?_
  refine sq9 ?_
  refine zza 11 (.v (.int .i64 (i : Int))) ?_
  refine zza 12 (.v x.v) ?_
  refine zza 13 (.v (.int .i64 (x.n : Int))) ?_
  refine zza 14 (.v (.bool (decide ((i : Int) < (x.n : Int))))) ?_
  refine zzb 27 [(0, .v x.v), (1, .v y.v), (5, .v (.int .i64 (i : Int))), (14, .v (.bool (decide ((i : Int) < (x.n : Int)))))] [] ?_
  refine zzt (b := decide ((i : Int) < (x.n : Int))) (by kernel_rfl) (fun hb12 => ?_) (fun hb12 => ?_)
  ·replace hb12 : (decide ((i : Int) < (x.n : Int))) = true := hb12
   have qhb12 := of_decide_eq_true hb12
   refine zzr (zzo ?_)
   refine zzc ?_
   refine zzs ?_
   refine zzc ?_
   refine zzy [0, 0, 3, 7, 0, 0, 48, 112, 255, 511] [(0, []), (1, []), (2, []), (3, []), (4, []), (5, []), (6, []), (7, []), (8, []), (9, [])] (by kernel_rfl) (by kernel_rfl) ?_
   refine zza 17 (.v x.v) ?_
   refine zza 18 (.v (.int .i64 (i : Int))) ?_
   have hl13 := (hx.ext e11).len
   obtain ⟨r13, b13, o13, hA13, hc13, hr13⟩ := pol_at (hx.ext e11) (i := i) (by omega)
   refine zzz 19 (o13 + i * 3) (n := x.n) (off := o13) (sz := 3) (i := (i : Int)) (by omega) hA13 (by omega) (by omega) sl28 ?_
   refine zyl 20 r13.cs hc13 ty41 ?_
   refine zza 21 (.v y.v) ?_
   refine zza 22 (.v (.int .i64 (i : Int))) ?_
   have hl14 := (hy.ext e11).len
   obtain ⟨r14, b14, o14, hA14, hc14, hr14⟩ := pol_at (hy.ext e11) (i := i) (by omega)
   refine zzz 23 (o14 + i * 3) (n := y.n) (off := o14) (sz := 3) (i := (i : Int)) (by omega) hA14 (by omega) (by omega) sl28 ?_
   refine zyl 24 r14.cs hc14 ty41 ?_
   refine zzf 25 14 [r13.v, r14.v] ?_
   intro w15 u15 e15 d15
   have k18 := k_rqCompare d15 (hr13.ext e15) (hr14.ext e15) (by omega) (by omega)
   with_reducible refine zPm k18 ?_
   rintro _ u16 g17 rfl
   refine zza 26 (.v (.bool ((Nt.cmpQ (l.getD i 0) (l.getD i 0)) != 0))) ?_
   refine zzb 27 [(0, .v x.v), (1, .v y.v), (5, .v (.int .i64 (i : Int))), (26, .v (.bool ((Nt.cmpQ (l.getD i 0) (l.getD i 0)) != 0)))] [] ?_
   refine zzt (b := (Nt.cmpQ (l.getD i 0) (l.getD i 0)) != 0) (by kernel_rfl) (fun hb => ?_) (fun hb => ?_)
   ·exact absurd hb (by rw [show ((Nt.cmpQ (l.getD i 0) (l.getD i 0)) != 0) = false from (Nt.cmpQ_self _)]; decide)
   ·clear hb
    refine zzr (zzo ?_)
    refine zze ?_
    refine zza 15 (.v (.int .i64 (i : Int))) ?_
    refine zyp 16 (x := .v (.int .i64 (IntKind.i64.wrap ((i : Int) + 1)))) (.v (.int .i64 ((i + 1 : Nat) : Int))) (eqI (by rw [IntWalk.i64_in _ (by omega)]; omega)) ?_
    refine zza 5 (.v (.int .i64 ((i + 1 : Nat) : Int))) ?_
    refine zzw ?_
    refine ⟨_, ?_, St.of 27 [(0, .v (.slice x.a x.n x.c)), (1, .v (.slice y.a y.n y.c)), (5, .v (.int .i64 ((i + 1 : Nat) : Int)))] [], by exact zzu _ _ _, i + 1, rfl, by omega, rfl, (e11.trans (e15.trans g17.ext))⟩
    omega
  ·replace hb12 : (decide ((i : Int) < (x.n : Int))) = false := hb12
   have qhb12 := of_decide_eq_false hb12
   refine zyb ?_
   refine zzo ?_
   refine sq9 ?_
   refine zza 4 (.v (.bool true)) ?_
   refine zzb 27 [(4, .v (.bool true))] [] ?_
   refine zzn (ret0 [.bool true] ⟨zzp, trivial⟩ fun u19 e20 => ?_)
   rfl
namespace Nt
def tapR (b k : List Rat) : Nat → List Rat
 | 0 => trimQ b
 | t + 1 => if (tapR b k t).length = k.length - t + 1 then trimQ (addQ (tapR b k t) ((trimQ ((revL k (k.length - t)).map (· * (tapR b k t).getD (k.length - t) 0))).map (fun z => -z))) else tapR b k t
def tapV (b k : List Rat) (t : Nat) : Rat := if (tapR b k t).length = k.length - t + 1 then (tapR b k t).getD (k.length - t) 0 else ((0 : Int) : Rat)
def tapL (b k : List Rat) : List Rat := (List.range (k.length + 1)).map fun i => tapV b k (k.length - i)
def tapE (b k : List Rat) : Int := if k.all smallQ then (if k.length + 1 < (trimQ b).length then 12 else 0) else 14
def tapO (b k : List Rat) : List Rat := if tapE b k = 0 then tapL b k else []
def tapK (t : Nat) : Nat := 2104 * 2 ^ t - 2100
theorem tapK_succ (t : Nat) : tapK (t + 1) = 2 * tapK t + 2100 ∧ 4 ≤ tapK t := by
 unfold tapK
 have := Nat.one_le_two_pow (n := t)
 rw [Nat.pow_succ]
 omega
theorem tapK_le {t : Nat} (h : t ≤ 7) : tapK t ≤ 270000 := by
 unfold tapK
 have := Nat.pow_le_pow_right (n := 2) (by decide) h
 omega
theorem tapL_len (b k : List Rat) : (tapL b k).length = k.length + 1 := by unfold tapL; simp
theorem tapL_at (b k : List Rat) {t : Nat} (h : t ≤ k.length) : (tapL b k).getD (k.length - t) 0 = tapV b k t := by
 unfold tapL
 rw [List.getD_eq_getElem?_getD, List.getElem?_map, List.getElem?_range (by omega)]
 show tapV b k (k.length - (k.length - t)) = _
 rw [show k.length - (k.length - t) = t by omega]
theorem all_small {k : List Rat} (h : ∀ i, i < k.length → smallQ (k.getD i 0) = true) : k.all smallQ = true := by
 rw [List.all_eq_true]
 intro q hq
 obtain ⟨i, hi, rfl⟩ := List.getElem_of_mem hq
 have := h i hi
 rwa [List.getD_eq_getElem?_getD, List.getElem?_eq_getElem hi] at this
theorem not_all {k : List Rat} {i : Nat} (hi : i < k.length) (h : smallQ (k.getD i 0) = false) : k.all smallQ = false := by
 cases e : k.all smallQ with
 | false => rfl
 | true =>
  rw [List.all_eq_true] at e
  have h9 := e (k[i]) (List.getElem_mem hi)
  rw [List.getD_eq_getElem?_getD, List.getElem?_eq_getElem hi] at h
  have h : smallQ (k[i]) = false := h
  rw [h9] at h; cases h
theorem tapE_bad {b k : List Rat} {i : Nat} (hi : i < k.length) (h : smallQ (k.getD i 0) = false) : tapE b k = 14 ∧ tapO b k = [] := by
 have e : tapE b k = 14 := by unfold tapE; rw [not_all hi h]; rfl
 exact ⟨e, by unfold tapO; rw [e]; rfl⟩
theorem tapE_deg {b k : List Rat} (hz : ∀ i, i < k.length → smallQ (k.getD i 0) = true) (h : k.length + 1 < (trimQ b).length) : tapE b k = 12 ∧ tapO b k = [] := by
 have e : tapE b k = 12 := by unfold tapE; rw [all_small hz, if_pos rfl, if_pos h]
 exact ⟨e, by unfold tapO; rw [e]; rfl⟩
theorem tapE_ok {b k : List Rat} (hz : ∀ i, i < k.length → smallQ (k.getD i 0) = true) (h : (trimQ b).length ≤ k.length + 1) : tapE b k = 0 ∧ tapO b k = tapL b k := by
 have e : tapE b k = 0 := by unfold tapE; rw [all_small hz, if_pos rfl, if_neg (by omega)]
 exact ⟨e, by unfold tapO; rw [e]; rfl⟩
theorem tapR_trim (b k : List Rat) (t : Nat) : trimQ (tapR b k t) = tapR b k t := by
 induction t with
 | zero => exact trim_trim _
 | succ t ih =>
  unfold tapR
  split
  ·exact trim_trim _
  ·exact ih
theorem tapR_len (b k : List Rat) (t : Nat) : (tapR b k t).length ≤ b.length + k.length + 1 := by
 induction t with
 | zero => have h9 := zzg b; show (trimQ b).length ≤ _; omega
 | succ t ih =>
  unfold tapR
  split
  ·refine Nat.le_trans (zzg _) ?_
   rw [addQ_len, List.length_map]
   have h9 : (trimQ ((revL k (k.length - t)).map (· * (tapR b k t).getD (k.length - t) 0))).length ≤ k.length - t + 1 := map_lenQ (Nat.le_of_eq (revL_len _ _))
   omega
  ·exact ih
theorem tapR_yes {b k : List Rat} {t : Nat} (h : (tapR b k t).length = k.length - t + 1) : trimQ (addQ (tapR b k t) ((trimQ ((revL k (k.length - t)).map (· * (tapR b k t).getD (k.length - t) 0))).map (fun z => -z))) = tapR b k (t + 1) := by
 rw [tapR, if_pos h]
theorem tapR_no {b k : List Rat} {t : Nat} (h : (tapR b k t).length ≠ k.length - t + 1) : tapR b k t = tapR b k (t + 1) := by
 rw [tapR, if_neg h]
theorem tapV_yes {b k : List Rat} {t : Nat} (h : (tapR b k t).length = k.length - t + 1) : (tapR b k t).getD (k.length - t) 0 = tapV b k t := by
 unfold tapV; rw [if_pos h]
theorem tapV_no {b k : List Rat} {t : Nat} (h : (tapR b k t).length ≠ k.length - t + 1) : ((0 : Int) : Rat) = tapV b k t := by
 unfold tapV; rw [if_neg h]
end Nt
def RatsTop (u : World) (L : List RL) (l : List Rat) (s K : Nat) : Prop := ∀ j, s ≤ j → j < l.length → RatN u (L.getD j rl0) (l.getD j 0) K
theorem RatsTop.ext {u u' : World} {L : List RL} {l : List Rat} {s K : Nat} (h : RatsTop u L l s K) (e : Ext u u') : RatsTop u' L l s K := fun j h1 h2 => (h j h1 h2).ext e
theorem RatsTop.set {u : World} {L : List RL} {l : List Rat} {s s2 s3 K : Nat} {r : RL} (h : RatsTop u L l s2 K) (hs : s2 = s + 1) (hs3 : s3 = s) (hl : s < L.length) (hr : RatN u r (l.getD s 0) K) : RatsTop u (L.set s r) l s3 K := fun j h1 h2 => by
 subst hs3
 by_cases e : j = s3
 ·subst e; rw [rl_set_same hl]; exact hr
 ·have h9 := h j (by omega) h2
  rw [List.getD_eq_getElem?_getD, List.getElem?_set_ne (by omega), ← List.getD_eq_getElem?_getD]
  exact h9
theorem RatsTop.none {u : World} {L : List RL} {l : List Rat} {s K : Nat} (h : l.length ≤ s) : RatsTop u L l s K := fun j h1 h2 => by omega
theorem RatsTop.done {u : World} {L : List RL} {l : List Rat} {s K : Nat} (h : RatsTop u L l s K) (hs : s = 0) (hL : L.length = l.length) : RatsN u L l K := ⟨hL, fun i hi => by
 first
 | exact h i (by omega) hi
 | exact h i (by omega) (by omega)⟩
set_option maxHeartbeats 8000000 in
theorem k_taps {u w : World} {x y : Sl} {p l : List Rat} {K M : Nat} (d : Dat u w) (hx : PolV u x p K) (hy : PolV u y l M) (hl : l.length ≤ 6) (hM : M ≤ 4) (hK : K ≤ 4) (hp9 : p.length ≤ 1000) : Calls Tryz.prog 71 #[x.v, y.v] w (Post u w fun v u' => ∃ y : Sl, v = .tuple #[y.v, .int .i64 (Nt.tapE p l)] ∧ PolN u' y (Nt.tapO p l) 270000) := by
 have hlen := hx.len
 have hlen2 := hy.len
 have htp := Nt.zzg p
 refine zzl (args := [.slice x.a x.n x.c, .slice y.a y.n y.c]) Tryz.func71 rfl Tryz.ntmps71 (rs := [.tmp 4, .tmp 5]) Tryz.results71 (le_b rfl) (le_b rfl) d ?_
 refine sq9 ?_
 refine zza 4 (.v (.slice none 0 0)) ?_
 refine zza 5 (.v (.int .i64 0)) ?_
 refine zzb 64 [(0, .v x.v), (1, .v y.v)] [] ?_
 refine zzc ?_
 refine sq9 ?_
 refine zza 12 (.v y.v) ?_
 refine zzf 13 52 [y.v] ?_
 intro w11 u11 e11 d11
 have k15 := k_stepUp d11 (hy.ext e11) (by omega) (by omega)
 with_reducible refine zPm k15 ?_
 rintro _ u13 g14 (⟨i12, hi12, hs12, rfl⟩ | ⟨hz12, y12, rfl, hy12⟩)
 ·skip
  refine zza 11 (.v (.tuple #[.slice none 0 0, .int .i64 14])) ?_
  refine zza 14 (.v (.slice none 0 0)) ?_
  refine zza 15 (.v (.int .i64 14)) ?_
  refine zza 6 (.v (.slice none 0 0)) ?_
  refine zza 7 (.v (.int .i64 14)) ?_
  refine zzb 64 [(0, .v x.v), (1, .v y.v), (7, .v (.int .i64 14))] [] ?_
  refine sq9 ?_
  refine zza 16 (.v (.int .i64 14)) ?_
  refine zza 17 (.v (.bool true)) ?_
  refine zzb 64 [(0, .v x.v), (1, .v y.v), (7, .v (.int .i64 14)), (17, .v (.bool true))] [] ?_
  refine zyq (by kernel_rfl) ?_
  refine sq9 ?_
  refine zza 18 (.v (.int .i64 14)) ?_
  refine zza 4 (.v (.slice none 0 0)) ?_
  refine zza 5 (.v (.int .i64 14)) ?_
  refine zzb 64 [(4, .v (.slice none 0 0)), (5, .v (.int .i64 14))] [] ?_
  refine zzn (zzv (ret0 [.slice none 0 0, .int .i64 14] ⟨zzp, zzp, trivial⟩ fun u16 e17 => ?_))
  refine ⟨⟨none, 0, 0⟩, by rw [(Nt.tapE_bad hi12 hs12).1]; rfl, by rw [(Nt.tapE_bad hi12 hs12).2]; exact pol_nil _ _⟩
 ·have hly12 := hy12.len
  have hmy12 := Nt.zzg (Nt.upL l l.length)
  rw [Nt.upL_len] at hmy12
  have hky12 := Nt.upK_le (show l.length ≤ 6 by omega)
  refine zza 11 (.v (.tuple #[y12.v, .int .i64 0])) ?_
  refine zza 14 (.v y12.v) ?_
  refine zza 15 (.v (.int .i64 0)) ?_
  refine zza 6 (.v y12.v) ?_
  refine zza 7 (.v (.int .i64 0)) ?_
  refine zzb 64 [(0, .v x.v), (1, .v y.v), (7, .v (.int .i64 0))] [] ?_
  refine sq9 ?_
  refine zza 16 (.v (.int .i64 0)) ?_
  refine zza 17 (.v (.bool false)) ?_
  refine zzb 64 [(0, .v x.v), (1, .v y.v), (7, .v (.int .i64 0)), (17, .v (.bool false))] [] ?_
  refine zyr (by kernel_rfl) ?_
  refine zzr (zzo ?_)
  refine zzc ?_
  refine sq9 ?_
  refine zza 19 (.v x.v) ?_
  refine zzf 20 130 [x.v] ?_
  intro w18 u18 e18 d18
  have k21 := k_poDegree d18 (hx.ext (e11.trans (g14.ext.trans e18))) (by omega) (by first|omega|(simp;omega) | (refine Nat.le_trans (Nt.zzg _) ?_; first|omega|(simp;omega)) | (refine Nat.le_trans (Nt.zzg _) ?_; simp only [List.length_map]; refine Nat.le_trans (Nt.zzg _) ?_; first|omega|(simp;omega)))
  with_reducible refine zPm k21 ?_
  rintro _ u19 g20 rfl
  refine zza 21 (.v y.v) ?_
  refine zza 22 (.v (.int .i64 (y.n : Int))) ?_
  refine zza 23 (.v (.bool (decide ((y.n : Int) < (((Nt.trimQ p).length : Int) - 1))))) ?_
  refine zzb 64 [(0, .v x.v), (1, .v y.v), (23, .v (.bool (decide ((y.n : Int) < (((Nt.trimQ p).length : Int) - 1)))))] [] ?_
  refine zzt (b := decide ((y.n : Int) < (((Nt.trimQ p).length : Int) - 1))) (by kernel_rfl) (fun hb22 => ?_) (fun hb22 => ?_)
  ·replace hb22 : (decide ((y.n : Int) < (((Nt.trimQ p).length : Int) - 1))) = true := hb22
   have qhb22 := of_decide_eq_true hb22
   refine sq9 ?_
   refine zza 4 (.v (.slice none 0 0)) ?_
   refine zza 5 (.v (.int .i64 12)) ?_
   refine zzb 64 [(4, .v (.slice none 0 0)), (5, .v (.int .i64 12))] [] ?_
   refine zzn (zzv (ret0 [.slice none 0 0, .int .i64 12] ⟨zzp, zzp, trivial⟩ fun u23 e24 => ?_))
   refine ⟨⟨none, 0, 0⟩, by rw [(Nt.tapE_deg hz12 (by omega)).1]; rfl, by rw [(Nt.tapE_deg hz12 (by omega)).2]; exact pol_nil _ _⟩
  ·replace hb22 : (decide ((y.n : Int) < (((Nt.trimQ p).length : Int) - 1))) = false := hb22
   have qhb22 := of_decide_eq_false hb22
   refine zzr (zzo ?_)
   refine sq9 ?_
   refine zza 24 (.v x.v) ?_
   refine zzf 25 53 [x.v] ?_
   intro w25 u25 e25 d25
   have k30 := k_poTrim d25 (hx.ext (e11.trans (g14.ext.trans (e18.trans (g20.ext.trans e25))))) (by omega) (by first|omega|(simp;omega) | (refine Nat.le_trans (Nt.zzg _) ?_; first|omega|(simp;omega)) | (refine Nat.le_trans (Nt.zzg _) ?_; simp only [List.length_map]; refine Nat.le_trans (Nt.zzg _) ?_; first|omega|(simp;omega)))
   with_reducible refine zPm k30 ?_
   rintro _ u28 g29 ⟨y26, rfl, h27⟩
   have hly26 := h27.len
   refine zza 8 (.v y26.v) ?_
   refine zzb 64 [(1, .v y.v), (8, .v y26.v)] [] ?_
   refine sq9 ?_
   refine zza 26 (.v y.v) ?_
   refine zza 27 (.v (.int .i64 (y.n : Int))) ?_
   refine zyp 28 (x := .v (.int .i64 (IntKind.i64.wrap ((y.n : Int) + 1)))) (.v (.int .i64 ((y.n + 1 : Nat) : Int))) (eqI (by rw [IntWalk.i64_in _ (by omega)]; omega)) ?_
   refine sy_make 29 (T := 28) (E := 41) (z := .agg #[.bool false, .slice none 0 0, .slice none 0 0]) (size := 3) (bytes := 56) (y.n + 1) (rcs (List.replicate (y.n + 1) rl0)) (by kernel_rfl) (by kernel_rfl) rfl rfl (by omega) (by unfold maxLen; omega) (made_rcs _) ?_
   refine zza 9 (.slc 29 0 (y.n + 1) (y.n + 1)) ?_
   refine zzb 64 [(1, .v y.v), (8, .v y26.v), (9, .slc 29 0 (y.n + 1) (y.n + 1))] [(29, ⟨41, rcs (List.replicate (y.n + 1) rl0)⟩)] ?_
   refine zzc ?_
   refine sq9 ?_
   refine zza 30 (.v y.v) ?_
   refine zza 31 (.v (.int .i64 (y.n : Int))) ?_
   refine zza 10 (.v (.int .i64 (y.n : Int))) ?_
   refine zzb 64 [(1, .v y.v), (8, .v y26.v), (9, .slc 29 0 (y.n + 1) (y.n + 1)), (10, .v (.int .i64 (y.n : Int)))] [(29, ⟨41, rcs (List.replicate (y.n + 1) rl0)⟩)] ?_
   refine zzs ?_
   rw [show ((y.n : Nat) : Int) = ((l.length : Nat) : Int) by omega]
   have hz := hz12
   refine zym (I := fun m31 S' u' => ∃ (t : Nat) (L : List RL) (r : Sl), (m31 = l.length + 1 - t) ∧ (t ≤ l.length + 1) ∧ (L.length = l.length + 1) ∧ (S' = St.of 64 [(1, .v (.slice y.a y.n y.c)), (8, .v (.slice r.a r.n r.c)), (9, .slc 29 0 (y.n + 1) (y.n + 1)), (10, .v (.int .i64 ((l.length : Int) - ((t : Nat) : Int))))] [(29, ⟨41, rcs L⟩)]) ∧ (Ext u28 u') ∧ (PolN u' r (Nt.tapR p l t) (Nt.tapK t)) ∧ (RatsTop u' L (Nt.tapL p l) (l.length + 1 - t) 270000)) (fun m S u1 u2 e h => by obtain ⟨t, L, r, hm, p0, p1, hS, hE, f0, f1⟩ := h; exact ⟨t, L, r, hm, p0, p1, hS, hE.trans e, f0.ext e, f1.ext e⟩) _ (T := St.of 64 [(1, .v (.slice y.a y.n y.c)), (8, .v (.slice y26.a y26.n y26.c)), (9, .slc 29 0 (y.n + 1) (y.n + 1)), (10, .v (.int .i64 (l.length : Int)))] [(29, ⟨41, rcs (List.replicate (y.n + 1) rl0)⟩)]) (by exact zzu _ _ _) ⟨0, List.replicate (y.n + 1) rl0, y26, rfl, Nat.zero_le _, by simp; omega, rfl, (Ext.refl _), (PolN.more h27 (by have h9 : Nt.tapK 0 = 4 := (by decide); omega)), (RatsTop.none (by rw [Nt.tapL_len]; omega))⟩ ?_
   rintro m31 _ u31 ⟨t, L, r, hm31, ht, hL, rfl, e31, hF, hR⟩
   have hrl := hF.len
   have htk := Nt.tapK_succ t
   have htk2 := Nt.tapK_le (show t ≤ 7 by omega)
   have hrb := Nt.tapR_len p l t
   have hrt := congrArg List.length (Nt.tapR_trim p l t)
   refine zzc ?_
   refine sq9 ?_
   refine zza 32 (.v (.int .i64 ((l.length : Int) - ((t : Nat) : Int)))) ?_
   refine zza 33 (.v (.bool (decide ((0 : Int) ≤ ((l.length : Int) - ((t : Nat) : Int)))))) ?_
   refine zzb 64 [(1, .v y.v), (8, .v r.v), (9, .slc 29 0 (y.n + 1) (y.n + 1)), (10, .v (.int .i64 ((l.length : Int) - ((t : Nat) : Int)))), (33, .v (.bool (decide ((0 : Int) ≤ ((l.length : Int) - ((t : Nat) : Int))))))] [(29, ⟨41, rcs L⟩)] ?_
   refine zzt (b := decide ((0 : Int) ≤ ((l.length : Int) - ((t : Nat) : Int)))) (by kernel_rfl) (fun hb32 => ?_) (fun hb32 => ?_)
   ·replace hb32 : (decide ((0 : Int) ≤ ((l.length : Int) - ((t : Nat) : Int)))) = true := hb32
    have qhb32 := of_decide_eq_true hb32
    refine zzr (zzo ?_)
    refine zzc ?_
    refine zzs ?_
    refine zzc ?_
    rw [show (l.length : Int) - ((t : Nat) : Int) = ((l.length - t : Nat) : Int) by omega]
    refine zze ?_
    refine zza 36 (.slc 29 0 (y.n + 1) (y.n + 1)) ?_
    refine zza 37 (.v (.int .i64 ((l.length - t : Nat) : Int))) ?_
    refine zzf 38 61 [.int .i64 0] ?_
    intro w33 u33 e33 d33
    have k38 := k_ratOf d33 (z := 0) (by omega) (by omega)
    with_reducible refine zPm k38 ?_
    rintro _ u36 g37 ⟨r34, rfl, h35⟩
    refine zyv 39 (off' := (l.length - t) * 3) (n := y.n + 1) (off := 0) (sz := 3) (i := ((l.length - t : Nat) : Int)) sl28 (by omega) (by omega) (by omega) ?_
    refine zyu (V := ⟨41, rcs L⟩) (off := (l.length - t) * 3) (rcs ((L).set (l.length - t) r34)) ty41 (by rw [zyx]; first|omega|(simp;omega)) (zyw (r := r34) (i := l.length - t) (by first|omega|(simp;omega)) rfl) ?_
    refine zzb 64 [(1, .v y.v), (8, .v r.v), (9, .slc 29 0 (y.n + 1) (y.n + 1)), (10, .v (.int .i64 ((l.length - t : Nat) : Int)))] [(29, ⟨41, rcs ((L).set (l.length - t) r34)⟩)] ?_
    refine sq9 ?_
    refine zza 40 (.v r.v) ?_
    refine zza 41 (.v (.int .i64 (r.n : Int))) ?_
    refine zza 42 (.v (.int .i64 ((l.length - t : Nat) : Int))) ?_
    refine zyp 43 (x := .v (.int .i64 (IntKind.i64.wrap (((l.length - t : Nat) : Int) + 1)))) (.v (.int .i64 (((l.length - t) + 1 : Nat) : Int))) (eqI (by rw [IntWalk.i64_in _ (by omega)]; omega)) ?_
    refine zza 44 (.v (.bool ((r.n : Int) == (((l.length - t) + 1 : Nat) : Int)))) ?_
    refine zzb 64 [(1, .v y.v), (8, .v r.v), (9, .slc 29 0 (y.n + 1) (y.n + 1)), (10, .v (.int .i64 ((l.length - t : Nat) : Int))), (44, .v (.bool ((r.n : Int) == (((l.length - t) + 1 : Nat) : Int))))] [(29, ⟨41, rcs ((L).set (l.length - t) r34)⟩)] ?_
    refine zzt (b := (r.n : Int) == (((l.length - t) + 1 : Nat) : Int)) (by kernel_rfl) (fun hb39 => ?_) (fun hb39 => ?_)
    ·replace hb39 : ((r.n : Int) == (((l.length - t) + 1 : Nat) : Int)) = true := hb39
     have qhb39 : (Nt.tapR p l t).length = l.length - t + 1 := by have h9 := eq_of_beq hb39; omega
     refine sq9 ?_
     refine zza 45 (.slc 29 0 (y.n + 1) (y.n + 1)) ?_
     refine zza 46 (.v (.int .i64 ((l.length - t : Nat) : Int))) ?_
     refine zza 47 (.v r.v) ?_
     refine zza 48 (.v (.int .i64 ((l.length - t : Nat) : Int))) ?_
     have hl40 := (hF.ext (e33.trans g37.ext)).len
     obtain ⟨r40, b40, o40, hA40, hc40, hr40⟩ := pol_atN (hF.ext (e33.trans g37.ext)) (i := l.length - t) (by omega)
     refine zzz 49 (o40 + (l.length - t) * 3) (n := r.n) (off := o40) (sz := 3) (i := ((l.length - t : Nat) : Int)) (by omega) hA40 (by omega) (by omega) sl29 ?_
     refine zyl 50 r40.cs hc40 ty41 ?_
     refine zzf 51 58 [r40.v] ?_
     intro w41 u41 e41 d41
     have k46 := k_ratTrim d41 (hr40.ext e41).raw (by omega)
     with_reducible refine zPm k46 ?_
     rintro _ u44 g45 ⟨r42, rfl, h43⟩
     refine zyv 52 (off' := (l.length - t) * 3) (n := y.n + 1) (off := 0) (sz := 3) (i := ((l.length - t : Nat) : Int)) sl28 (by omega) (by omega) (by omega) ?_
     refine zyu (V := ⟨41, rcs ((L).set (l.length - t) r34)⟩) (off := (l.length - t) * 3) (rcs ((L).set (l.length - t) r42)) ty41 (by rw [zyx]; first|omega|(simp;omega)) ((zyw (r := r42) (i := l.length - t) (by first|omega|(simp;omega)) rfl).trans (by rw [List.set_set])) ?_
     refine zzb 64 [(1, .v y.v), (8, .v r.v), (9, .slc 29 0 (y.n + 1) (y.n + 1)), (10, .v (.int .i64 ((l.length - t : Nat) : Int)))] [(29, ⟨41, rcs ((L).set (l.length - t) r42)⟩)] ?_
     refine zzy [0, 0, 0, 6, 0, 0, 48, 112, 254, 511, 1023] [(0, []), (1, []), (2, []), (4, []), (5, []), (6, []), (7, []), (3, []), (8, []), (9, []), (10, [])] (by kernel_rfl) (by kernel_rfl) ?_
     refine zza 53 (.v r.v) ?_
     refine zza 54 (.v y.v) ?_
     refine zza 55 (.v (.int .i64 ((l.length - t : Nat) : Int))) ?_
     refine zza 57 (.slc 29 0 (y.n + 1) (y.n + 1)) ?_
     refine zza 58 (.v (.int .i64 ((l.length - t : Nat) : Int))) ?_
     refine zyv 59 (off' := (l.length - t) * 3) (n := y.n + 1) (off := 0) (sz := 3) (i := ((l.length - t : Nat) : Int)) sl28 (by omega) (by omega) (by omega) ?_
     refine zzh 60 (V := ⟨41, rcs ((L).set (l.length - t) r42)⟩) (off := (l.length - t) * 3) (.v r42.v) ty41 (by have h9 := part_rcs (L := (L).set (l.length - t) r42) (i := l.length - t) (off := (l.length - t) * 3) (by first|omega|(simp;omega)) rfl; rw [rl_set_same (by first|omega|(simp;omega))] at h9; exact h9) ?_
     refine zzf 56 51 [y.v, .int .i64 ((l.length - t : Nat) : Int)] ?_
     intro w47 u47 e47 d47
     have k52 := (show Calls _ _ #[_, .int .i64 ((l.length - t : Nat) : Int)] _ _ from k_reversed (i := l.length - t) d47 (hy.ext (e11.trans (g14.ext.trans (e18.trans (g20.ext.trans (e25.trans (g29.ext.trans (e31.trans (e33.trans (g37.ext.trans (e41.trans (g45.ext.trans e47)))))))))))) (by omega) (by omega) hz (by omega))
     with_reducible refine zPm k52 ?_
     rintro _ u50 g51 ⟨y48, rfl, h49⟩
     have hly48 := h49.len
     have hmy48 := Nt.revL_len l (l.length - t)
     have hky48 := Nt.upK_le (show l.length - t ≤ 6 by omega)
     refine zzf 61 50 [y48.v, r42.v] ?_
     intro w53 u53 e53 d53
     have k58 := k_poScale d53 (h49.ext e53).raw (h43.ext (e47.trans (g51.ext.trans e53))).raw (by omega) (by first|omega|(simp;omega) | (refine Nat.le_trans (Nt.zzg _) ?_; first|omega|(simp;omega)) | (refine Nat.le_trans (Nt.zzg _) ?_; simp only [List.length_map]; refine Nat.le_trans (Nt.zzg _) ?_; first|omega|(simp;omega))) (by omega)
     with_reducible refine zPm k58 ?_
     rintro _ u56 g57 ⟨y54, rfl, h55⟩
     have hly54 := h55.len
     refine zzf 62 96 [r.v, y54.v] ?_
     intro w59 u59 e59 d59
     have k64 := k_poSub d59 (hF.ext (e33.trans (g37.ext.trans (e41.trans (g45.ext.trans (e47.trans (g51.ext.trans (e53.trans (g57.ext.trans e59))))))))).raw (h55.ext e59).raw (by omega) (by omega) (by first|omega|(simp;omega) | (refine Nat.le_trans (Nt.zzg _) ?_; first|omega|(simp;omega)) | (refine Nat.le_trans (Nt.zzg _) ?_; simp only [List.length_map]; refine Nat.le_trans (Nt.zzg _) ?_; first|omega|(simp;omega))) (by first|omega|(simp;omega) | (refine Nat.le_trans (Nt.zzg _) ?_; first|omega|(simp;omega)) | (refine Nat.le_trans (Nt.zzg _) ?_; simp only [List.length_map]; refine Nat.le_trans (Nt.zzg _) ?_; first|omega|(simp;omega)))
     with_reducible refine zPm k64 ?_
     rintro _ u62 g63 ⟨y60, rfl, h61⟩
     have hly60 := h61.len
     refine zza 8 (.v y60.v) ?_
     refine zzw ?_
     refine zzo ?_
     refine zze ?_
     refine zza 34 (.v (.int .i64 ((l.length - t : Nat) : Int))) ?_
     refine zyp 35 (x := .v (.int .i64 (IntKind.i64.wrap (((l.length - t : Nat) : Int) - 1)))) (.v (.int .i64 ((l.length : Int) - ((t + 1 : Nat) : Int)))) (eqI (by rw [IntWalk.i64_in _ (by omega)]; omega)) ?_
     refine zza 10 (.v (.int .i64 ((l.length : Int) - ((t + 1 : Nat) : Int)))) ?_
     refine zzw ?_
     have he9 := Nt.tapR_yes qhb39
     refine ⟨_, ?_, St.of 64 [(1, .v (.slice y.a y.n y.c)), (8, .v (.slice y60.a y60.n y60.c)), (9, .slc 29 0 (y.n + 1) (y.n + 1)), (10, .v (.int .i64 ((l.length : Int) - ((t + 1 : Nat) : Int))))] [(29, ⟨41, rcs ((L).set (l.length - t) r42)⟩)], by exact zzu _ _ _, t + 1, (L).set (l.length - t) r42, y60, rfl, by omega, by simpa using hL, rfl, (e31.trans (e33.trans (g37.ext.trans (e41.trans (g45.ext.trans (e47.trans (g51.ext.trans (e53.trans (g57.ext.trans (e59.trans g63.ext)))))))))), (by rw [← he9]; exact PolN.more (K := ((Nt.tapK t) + ((Nt.upK (l.length - t)) + (Nt.tapK t)) + 1)) h61 (by omega)), (RatsTop.set (s := l.length - t) (hR.ext (e33.trans (g37.ext.trans (e41.trans (g45.ext.trans (e47.trans (g51.ext.trans (e53.trans (g57.ext.trans (e59.trans g63.ext)))))))))) (by omega) (by omega) (by omega) (by rw [Nt.tapL_at p l (by omega), ← Nt.tapV_yes qhb39]; exact RatN.more (K := (Nt.tapK t)) (h43.ext (e47.trans (g51.ext.trans (e53.trans (g57.ext.trans (e59.trans g63.ext)))))) (by omega)))⟩
     omega
    ·replace hb39 : ((r.n : Int) == (((l.length - t) + 1 : Nat) : Int)) = false := hb39
     have qhb39 : (Nt.tapR p l t).length ≠ l.length - t + 1 := by have h9 := ne_of_beq_false hb39; omega
     refine zzr (zzo ?_)
     refine zze ?_
     refine zza 34 (.v (.int .i64 ((l.length - t : Nat) : Int))) ?_
     refine zyp 35 (x := .v (.int .i64 (IntKind.i64.wrap (((l.length - t : Nat) : Int) - 1)))) (.v (.int .i64 ((l.length : Int) - ((t + 1 : Nat) : Int)))) (eqI (by rw [IntWalk.i64_in _ (by omega)]; omega)) ?_
     refine zza 10 (.v (.int .i64 ((l.length : Int) - ((t + 1 : Nat) : Int)))) ?_
     refine zzw ?_
     have he9 := Nt.tapR_no qhb39
     refine ⟨_, ?_, St.of 64 [(1, .v (.slice y.a y.n y.c)), (8, .v (.slice r.a r.n r.c)), (9, .slc 29 0 (y.n + 1) (y.n + 1)), (10, .v (.int .i64 ((l.length : Int) - ((t + 1 : Nat) : Int))))] [(29, ⟨41, rcs ((L).set (l.length - t) r34)⟩)], by exact zzu _ _ _, t + 1, (L).set (l.length - t) r34, r, rfl, by omega, by simpa using hL, rfl, (e31.trans (e33.trans g37.ext)), (by rw [← he9]; exact PolN.more (K := (Nt.tapK t)) (hF.ext (e33.trans g37.ext)) (by omega)), (RatsTop.set (s := l.length - t) (hR.ext (e33.trans g37.ext)) (by omega) (by omega) (by omega) (by rw [Nt.tapL_at p l (by omega), ← Nt.tapV_no qhb39]; exact RatN.more (K := 2) h35 (by omega)))⟩
     omega
   ·replace hb32 : (decide ((0 : Int) ≤ ((l.length : Int) - ((t : Nat) : Int)))) = false := hb32
    have qhb32 := of_decide_eq_false hb32
    refine zyb ?_
    refine zzo ?_
    refine zzc ?_
    refine zyo (r := 9) (t := 29) [9, 29] (by repeat first | exact noAt_of | refine zyc ?_ | refine zye ?_ | refine zyd ?_ | refine zzx ?_ | refine zya ?_) (by kernel_rfl) (by rfl) (by rfl) (by kernel_rfl) (fun b65 u66 e67 hb68 hh69 => ?_)
    have hp70 : PolN u66 ⟨some ⟨b65, 0, none⟩, y.n + 1, y.n + 1⟩ (Nt.tapL p l) 270000 := pol_data1 hh69 (by unfold maxLen; omega) (RatsTop.done (hR.ext e67) (by omega) (by rw [Nt.tapL_len]; omega)) (by omega)
    refine zze ?_
    refine zza 63 (.v (.slice (some ⟨b65, 0, none⟩) (y.n + 1) (y.n + 1))) ?_
    refine zza 4 (.v (.slice (some ⟨b65, 0, none⟩) (y.n + 1) (y.n + 1))) ?_
    refine zza 5 (.v (.int .i64 0)) ?_
    refine zzb 64 [(4, .v (.slice (some ⟨b65, 0, none⟩) (y.n + 1) (y.n + 1))), (5, .v (.int .i64 0))] [] ?_
    refine zzn (ret0 [.slice (some ⟨b65, 0, none⟩) (y.n + 1) (y.n + 1), .int .i64 0] ⟨zzp, zzp, trivial⟩ fun u71 e72 => ?_)
    refine ⟨(⟨some ⟨b65, 0, none⟩, y.n + 1, y.n + 1⟩ : Sl), by rw [(Nt.tapE_ok hz12 (by omega)).1]; rfl, by rw [(Nt.tapE_ok hz12 (by omega)).2]; exact (hp70.ext e72)⟩
namespace Nt
end Nt
namespace Nt
end Nt
theorem all_at {b : Int} {L : List Int} (h : ∀ z ∈ L, -b ≤ z ∧ z ≤ b) (hb : 0 ≤ b) (i : Nat) : -b ≤ L.getD i 0 ∧ L.getD i 0 ≤ b := ints_bd h ⟨by omega, hb⟩ i
namespace Nt
def wqL (f : Int) (l : List Int) : List Rat := l.map fun z => wq z f
theorem wqL_len (f : Int) (l : List Int) : (wqL f l).length = l.length := by unfold wqL; simp
theorem wqL_at (f : Int) (l : List Int) {i : Nat} (h : i < l.length) : (wqL f l).getD i 0 = wq (l.getD i 0) f := by
 unfold wqL
 rw [List.getD_eq_getElem?_getD, List.getElem?_map, List.getD_eq_getElem?_getD, List.getElem?_eq_getElem h]; rfl
theorem wqL_small {f : Int} {l : List Int} (h : ∀ z ∈ l, -(p2i f - 1) ≤ z ∧ z ≤ p2i f - 1) : ∀ i, i < (wqL f l).length → smallQ ((wqL f l).getD i 0) = true := fun i hi => by
 rw [wqL_len] at hi
 rw [wqL_at f l hi]
 have hz := all_at h (by have := p2i_pos f; omega) i
 exact small_iff.2 (wq_small (by omega) (by omega))
def liS (f : Int) (k m : List Int) : Nat → List Rat
 | 0 => []
 | i + 1 => trimQ (addQ (liS f k m i) (trimQ ((revL (wqL f k) i).map (· * wq (m.getD i 0) f))))
theorem liS_len (f : Int) (k m : List Int) (n : Nat) : (liS f k m n).length ≤ n := by
 induction n with
 | zero => exact Nat.le_refl _
 | succ n ih =>
  have h9 : (trimQ ((revL (wqL f k) n).map (· * wq (m.getD n 0) f))).length ≤ n + 1 := map_lenQ (Nat.le_of_eq (revL_len _ _))
  refine Nat.le_trans (zzg _) ?_
  rw [addQ_len]
  omega
end Nt
theorem k_in {u w : World} {z a b : Int} (d : Dat u w) : Calls Tryz.prog 118 #[.int .i64 z, .int .i64 a, .int .i64 b] w (Post u w fun v _ => v = .bool (decide (a ≤ z) && decide (z ≤ b))) := by
 refine zzl (args := [.int .i64 z, .int .i64 a, .int .i64 b]) Tryz.func118 rfl Tryz.ntmps118 (rs := [.tmp 6]) Tryz.results118 (le_b rfl) (le_b rfl) d ?_
 refine sq9 ?_
 refine zza 6 (.v (.bool false)) ?_
 refine zzb 15 [(0, .v (.int .i64 z)), (1, .v (.int .i64 a)), (2, .v (.int .i64 b))] [] ?_
 refine sq9 ?_
 refine zza 7 (.v (.int .i64 z)) ?_
 refine zza 8 (.v (.int .i64 a)) ?_
 refine zza 9 (.v (.bool (decide (a ≤ z)))) ?_
 rcases Bool.eq_false_or_eq_true (decide (a ≤ z)) with hs11 | hs11
 ·refine zyp 10 (x := .v (.bool (decide (a ≤ z)))) (.v (.bool true)) (by rw [hs11]) ?_
  have qhs11 := of_decide_eq_true hs11
  refine zza 11 (.v (.int .i64 z)) ?_ (hw := w1 3 true 10)
  refine zza 12 (.v (.int .i64 b)) ?_ (hw := w1 3 true 10)
  refine zza 13 (.v (.bool (decide (z ≤ b)))) ?_ (hw := w1 3 true 10)
  refine zza 14 (.v (.bool (decide (z ≤ b)))) ?_
  refine zza 6 (.v (.bool (decide (z ≤ b)))) ?_
  refine zzb 15 [(6, .v (.bool (decide (z ≤ b))))] [] ?_
  refine zzn (ret0 [.bool (decide (z ≤ b))] ⟨zzp, trivial⟩ fun u12 e13 => ?_)
  show Value.bool _ = Value.bool _
  rw [hs11]
  rfl
 ·refine zyp 10 (x := .v (.bool (decide (a ≤ z)))) (.v (.bool false)) (by rw [hs11]) ?_
  have qhs11 := of_decide_eq_false hs11
  refine zzm 11 (uw 3 true false 10) ?_
  refine zzm 12 (uw 3 true false 10) ?_
  refine zzm 13 (uw 3 true false 10) ?_
  refine zza 14 (.v (.bool false)) ?_
  refine zza 6 (.v (.bool false)) ?_
  refine zzb 15 [(6, .v (.bool false))] [] ?_
  refine zzn (ret0 [.bool false] ⟨zzp, trivial⟩ fun u14 e15 => ?_)
  show Value.bool _ = Value.bool _
  rw [hs11]
  rfl
theorem k_r21Valid {u w : World} {W : WL} (d : Dat u w) (hW : WdOK W) : Calls Tryz.prog 68 #[W.v] w (Post u w fun v _ => v = .bool true) := by
 obtain ⟨hw1, hw2, hw3, hw4, hw5, hw6, hw7, hw8⟩ := id hW
 refine zzl (args := [.agg #[.int .i64 W.b, .int .i64 W.f, .int .i64 W.r, .int .i64 W.o]]) Tryz.func68 rfl Tryz.ntmps68 (rs := [.tmp 2]) Tryz.results68 (le_b rfl) (le_b rfl) d ?_
 refine sq9 ?_
 refine zzj 1 ⟨24, W.cs⟩ ?_
 refine zza 2 (.v (.bool false)) ?_
 refine zzb 24 [(1, .adr 1 0)] [(1, ⟨24, W.cs⟩)] ?_
 refine sq9 ?_
 refine zza 3 (.adr 1 0) ?_
 refine zzh 4 (.v (.int .i64 W.b)) ty3 zzk ?_
 refine zzf 5 118 [.int .i64 W.b, .int .i64 4, .int .i64 24] ?_
 intro w11 u11 e11 d11
 have k14 := k_in d11 (z := W.b) (a := 4) (b := 24)
 with_reducible refine zPm k14 ?_
 rintro _ u12 g13 rfl
 refine zyp 6 (x := .v (.bool (decide ((4 : Int) ≤ W.b) && decide (W.b ≤ 24)))) (.v (.bool true)) (by rw [show (decide ((4 : Int) ≤ W.b) && decide (W.b ≤ 24)) = true from (by simp; omega)]) ?_
 refine zza 7 (.adr 1 1) ?_ (hw := w1 3 true 6)
 refine zzh 8 (.v (.int .i64 W.f)) ty3 zzk ?_ (hw := w1 3 true 6)
 refine zza 9 (.adr 1 0) ?_ (hw := w1 3 true 6)
 refine zzh 10 (.v (.int .i64 W.b)) ty3 zzk ?_ (hw := w1 3 true 6)
 refine zyp 11 (x := .v (.int .i64 (IntKind.i64.wrap (W.b - 1)))) (.v (.int .i64 (W.b - 1))) (by rw [IntWalk.i64_in _ (by omega)]) ?_ (hw := w1 3 true 6)
 refine zzf 12 118 [.int .i64 W.f, .int .i64 0, .int .i64 (W.b - 1)] ?_ (hw := w1 3 true 6)
 intro w16 u16 e16 d16
 have k19 := k_in d16 (z := W.f) (a := 0) (b := W.b - 1)
 with_reducible refine zPm k19 ?_
 rintro _ u17 g18 rfl
 refine zza 13 (.v (.bool (decide ((0 : Int) ≤ W.f) && decide (W.f ≤ (W.b - 1))))) ?_
 refine zyp 14 (x := .v (.bool (decide ((0 : Int) ≤ W.f) && decide (W.f ≤ (W.b - 1))))) (.v (.bool true)) (by rw [show (decide ((0 : Int) ≤ W.f) && decide (W.f ≤ (W.b - 1))) = true from (by simp; omega)]) ?_
 refine zza 15 (.adr 1 2) ?_ (hw := w1 11 true 14)
 refine zzh 16 (.v (.int .i64 W.r)) ty3 zzk ?_ (hw := w1 11 true 14)
 refine zzf 17 118 [.int .i64 W.r, .int .i64 1, .int .i64 3] ?_ (hw := w1 11 true 14)
 intro w21 u21 e21 d21
 have k24 := k_in d21 (z := W.r) (a := 1) (b := 3)
 with_reducible refine zPm k24 ?_
 rintro _ u22 g23 rfl
 refine zza 18 (.v (.bool (decide ((1 : Int) ≤ W.r) && decide (W.r ≤ 3)))) ?_
 refine zyp 19 (x := .v (.bool (decide ((1 : Int) ≤ W.r) && decide (W.r ≤ 3)))) (.v (.bool true)) (by rw [show (decide ((1 : Int) ≤ W.r) && decide (W.r ≤ 3)) = true from (by simp; omega)]) ?_
 refine zza 20 (.adr 1 3) ?_ (hw := w1 16 true 19)
 refine zzh 21 (.v (.int .i64 W.o)) ty3 zzk ?_ (hw := w1 16 true 19)
 refine zzf 22 118 [.int .i64 W.o, .int .i64 1, .int .i64 2] ?_ (hw := w1 16 true 19)
 intro w26 u26 e26 d26
 have k29 := k_in d26 (z := W.o) (a := 1) (b := 2)
 with_reducible refine zPm k29 ?_
 rintro _ u27 g28 rfl
 refine zza 23 (.v (.bool (decide ((1 : Int) ≤ W.o) && decide (W.o ≤ 2)))) ?_
 refine zza 2 (.v (.bool (decide ((1 : Int) ≤ W.o) && decide (W.o ≤ 2)))) ?_
 refine zzb 24 [(2, .v (.bool (decide ((1 : Int) ≤ W.o) && decide (W.o ≤ 2))))] [] ?_
 refine zzn (ret0 [.bool (decide ((1 : Int) ≤ W.o) && decide (W.o ≤ 2))] ⟨zzp, trivial⟩ fun u30 e31 => ?_)
 show Value.bool _ = Value.bool _
 rw [show (decide ((1 : Int) ≤ W.o) && decide (W.o ≤ 2)) = true from (by simp; omega)]
theorem Nt.p2i_nat (i : Nat) : Nt.p2i ((i + 1 : Nat) : Int) = Nt.p2i ((i : Nat) : Int) + Nt.p2i ((i : Nat) : Int) := by
 unfold Nt.p2i
 rw [show (((i + 1 : Nat) : Int)).toNat = i + 1 by omega, show (((i : Nat) : Int)).toNat = i by omega, Int.pow_succ]; omega
theorem Nt.p2i_rs {z : Int} (h : z ≤ 24) : Nt.rs ((Nt.p2i z : Int) : Rat) ≤ 2 := by
 have h1 := Nt.p2i_pos z
 have h2 := Nt.p2i_24 h
 exact Nat.le_trans (Nt.Wh.rs (C := 24) ⟨Nt.p2i z, rfl, by omega⟩) (by decide)
theorem k_power {u w : World} {n : Nat} (d : Dat u w) (hn : n ≤ 24) : Calls Tryz.prog 70 #[.int .i64 (n : Int)] w (Post u w fun v u' => ∃ r : RL, v = r.v ∧ RatN u' r ((Nt.p2i ((n : Nat) : Int) : Int) : Rat) 2) := by
 refine zzl (args := [.int .i64 (n : Int)]) Tryz.func70 rfl Tryz.ntmps70 (rs := [.cell 2 41]) Tryz.results70 (le_b rfl) (le_b rfl) d ?_
 refine sq9 ?_
 refine zzj 2 ⟨41, [.bool false, .slice none 0 0, .slice none 0 0]⟩ ?_
 refine zzb 15 [(0, .v (.int .i64 (n : Int))), (2, .adr 2 0)] [(2, ⟨41, [.bool false, .slice none 0 0, .slice none 0 0]⟩)] ?_
 refine sq9 ?_
 refine zzf 5 13 [.int .i64 1] ?_
 intro w11 u11 e11 d11
 have k16 := k_rqOf d11 (z := 1) (by omega) (by omega)
 with_reducible refine zPm k16 ?_
 rintro _ u14 g15 ⟨r12, rfl, h13⟩
 refine zzj 3 ⟨41, [.bool false, .slice none 0 0, .slice none 0 0]⟩ ?_
 refine zzi ⟨41, r12.cs⟩ ty41 ?_
 refine zzb 15 [(0, .v (.int .i64 (n : Int))), (2, .adr 2 0), (3, .adr 3 0)] [(2, ⟨41, [.bool false, .slice none 0 0, .slice none 0 0]⟩), (3, ⟨41, r12.cs⟩)] ?_
 refine zzc ?_
 refine sq9 ?_
 refine zza 4 (.v (.int .i64 0)) ?_
 refine zzb 15 [(0, .v (.int .i64 (n : Int))), (2, .adr 2 0), (3, .adr 3 0), (4, .v (.int .i64 0))] [(2, ⟨41, [.bool false, .slice none 0 0, .slice none 0 0]⟩), (3, ⟨41, r12.cs⟩)] ?_
 refine zzs ?_
 refine zym (I := fun m17 S' u' => ∃ (i : Nat) (q : RL), (m17 = n - i) ∧ (i ≤ n) ∧ (S' = St.of 15 [(0, .v (.int .i64 (n : Int))), (2, .adr 2 0), (3, .adr 3 0), (4, .v (.int .i64 (i : Int)))] [(2, ⟨41, [.bool false, .slice none 0 0, .slice none 0 0]⟩), (3, ⟨41, q.cs⟩)]) ∧ (Ext u14 u') ∧ (RatN u' q ((Nt.p2i ((i : Nat) : Int) : Int) : Rat) 2)) (fun m S u1 u2 e h => by obtain ⟨i, q, hm, p0, hS, hE, f0⟩ := h; exact ⟨i, q, hm, p0, hS, hE.trans e, f0.ext e⟩) _ (T := St.of 15 [(0, .v (.int .i64 (n : Int))), (2, .adr 2 0), (3, .adr 3 0), (4, .v (.int .i64 0))] [(2, ⟨41, [.bool false, .slice none 0 0, .slice none 0 0]⟩), (3, ⟨41, r12.cs⟩)]) (by exact zzu _ _ _) ⟨0, r12, rfl, Nat.zero_le _, rfl, (Ext.refl _), (show RatN _ _ ((Nt.p2i ((0 : Nat) : Int) : Int) : Rat) 2 from RatN.more (K := 2) h13 (by omega))⟩ ?_
 rintro m17 _ u17 ⟨i, q, hm17, hi, rfl, e17, hQ⟩
 refine zzc ?_
 refine sq9 ?_
 refine zza 6 (.v (.int .i64 (i : Int))) ?_
 refine zza 7 (.v (.int .i64 (n : Int))) ?_
 refine zza 8 (.v (.bool (decide ((i : Int) < (n : Int))))) ?_
 refine zzb 15 [(0, .v (.int .i64 (n : Int))), (2, .adr 2 0), (3, .adr 3 0), (4, .v (.int .i64 (i : Int))), (8, .v (.bool (decide ((i : Int) < (n : Int)))))] [(2, ⟨41, [.bool false, .slice none 0 0, .slice none 0 0]⟩), (3, ⟨41, q.cs⟩)] ?_
 refine zzt (b := decide ((i : Int) < (n : Int))) (by kernel_rfl) (fun hb18 => ?_) (fun hb18 => ?_)
 ·replace hb18 : (decide ((i : Int) < (n : Int))) = true := hb18
  have qhb18 := of_decide_eq_true hb18
  refine zzr (zzo ?_)
  refine zzc ?_
  refine zzs ?_
  refine zze ?_
  refine zzh 11 (.v (q.v)) ty41 zzd ?_
  refine zzh 12 (.v (q.v)) ty41 zzd ?_
  refine zzf 13 150 [q.v, q.v] ?_
  intro w19 u19 e19 d19
  have k24 := k_rqAdd d19 (hQ.ext e19).raw (hQ.ext e19).raw (by omega) (by omega)
  with_reducible refine zPm k24 ?_
  rintro _ u22 g23 ⟨r20, rfl, h21⟩
  refine zzi ⟨41, r20.cs⟩ ty41 ?_
  refine zzw ?_
  refine zzo ?_
  refine zze ?_
  refine zza 9 (.v (.int .i64 (i : Int))) ?_
  refine zyp 10 (x := .v (.int .i64 (IntKind.i64.wrap ((i : Int) + 1)))) (.v (.int .i64 ((i + 1 : Nat) : Int))) (eqI (by rw [IntWalk.i64_in _ (by omega)]; omega)) ?_
  refine zza 4 (.v (.int .i64 ((i + 1 : Nat) : Int))) ?_
  refine zzw ?_
  refine ⟨_, ?_, St.of 15 [(0, .v (.int .i64 (n : Int))), (2, .adr 2 0), (3, .adr 3 0), (4, .v (.int .i64 ((i + 1 : Nat) : Int)))] [(2, ⟨41, [.bool false, .slice none 0 0, .slice none 0 0]⟩), (3, ⟨41, r20.cs⟩)], by exact zzu _ _ _, i + 1, r20, rfl, by omega, rfl, (e17.trans (e19.trans g23.ext)), (RatN.fit (K := (2 + 2 + 2)) (by rw [Nt.p2i_nat, Rat.intCast_add]; exact h21) (Nt.p2i_rs (by omega)))⟩
  omega
 ·replace hb18 : (decide ((i : Int) < (n : Int))) = false := hb18
  have qhb18 := of_decide_eq_false hb18
  refine zyb ?_
  refine zzo ?_
  refine sq9 ?_
  refine zzh 14 (.v (q.v)) ty41 zzd ?_
  refine zzi ⟨41, q.cs⟩ ty41 ?_
  refine zzb 15 [(2, .adr 2 0)] [(2, ⟨41, q.cs⟩)] ?_
  refine zzn (ret0 [q.v] ⟨zzq ty41 zzd, trivial⟩ fun u25 e26 => ?_)
  have hin : i = n := by omega
  subst hin
  exact ⟨q, rfl, (hQ.ext e26)⟩
theorem k_powerI {u w : World} {z : Int} (d : Dat u w) (h0 : 0 ≤ z) (h1 : z ≤ 24) : Calls Tryz.prog 70 #[.int .i64 z] w (Post u w fun v u' => ∃ r : RL, v = r.v ∧ RatN u' r ((Nt.p2i z : Int) : Rat) 2) := by
 have := k_power (n := z.toNat) d (by omega)
 rw [Int.toNat_of_nonneg h0] at this
 exact this
theorem k_rqDivN {u w : World} {r1 r2 : RL} {x y : Rat} {K L : Nat} (d : Dat u w) (hr1 : RatV u r1 x K) (hr2 : RatV u r2 y L) (hy : y ≠ 0) (hK : K ≤ 10000000) (hL : L ≤ 10000000) : Calls Tryz.prog 69 #[r1.v, r2.v] w (Post u w fun v u' => ∃ r : RL, v = .tuple #[r.v, .int .i64 0] ∧ RatN u' r (x / y) (K + L + 1)) :=
 Post.mono (k_rqDiv d hr1 hr2 (by omega) (by omega)) fun v u' _ h => h.elim (fun h => absurd h.2 hy) (fun h => h.2)
theorem Nt.p2i_ne (z : Int) : ((Nt.p2i z : Int) : Rat) ≠ 0 := fun e => by
 have h : Nt.p2i z = 0 := Rat.intCast_inj.1 e
 have := Nt.p2i_pos z
 omega
set_option maxHeartbeats 1000000 in
theorem k_r21Value {u w : World} {W : WL} {z : Int} (d : Dat u w) (hW : WdOK W) (h0 : -16777216 ≤ z) (h1 : z ≤ 16777216) : Calls Tryz.prog 15 #[W.v, .int .i64 z] w (Post u w fun v u' => ∃ r : RL, v = r.v ∧ RatN u' r (((z : Int) : Rat) / ((Nt.p2i W.f : Int) : Rat)) 8) := by
 obtain ⟨hw1, hw2, hw3, hw4, hw5, hw6, hw7, hw8⟩ := id hW
 refine zzl (args := [.agg #[.int .i64 W.b, .int .i64 W.f, .int .i64 W.r, .int .i64 W.o], .int .i64 z]) Tryz.func15 rfl Tryz.ntmps15 (rs := [.cell 4 41]) Tryz.results15 (le_b rfl) (le_b rfl) d ?_
 refine sq9 ?_
 refine zzj 2 ⟨24, W.cs⟩ ?_
 refine zzj 4 ⟨41, [.bool false, .slice none 0 0, .slice none 0 0]⟩ ?_
 refine zzb 21 [(1, .v (.int .i64 z)), (2, .adr 2 0), (4, .adr 4 0)] [(2, ⟨24, W.cs⟩), (4, ⟨41, [.bool false, .slice none 0 0, .slice none 0 0]⟩)] ?_
 refine zzc ?_
 refine sq9 ?_
 refine zzh 7 (.v (W.v)) ty24 zzd ?_
 refine zzf 8 68 [W.v] ?_
 intro w11 u11 e11 d11
 have k14 := k_r21Valid (W := W) d11 hW
 with_reducible refine zPm k14 ?_
 rintro _ u12 g13 rfl
 refine zza 9 (.v (.bool false)) ?_
 refine zzb 21 [(1, .v (.int .i64 z)), (2, .adr 2 0), (4, .adr 4 0), (9, .v (.bool false))] [(2, ⟨24, W.cs⟩), (4, ⟨41, [.bool false, .slice none 0 0, .slice none 0 0]⟩)] ?_
 refine zyr (by kernel_rfl) ?_
 refine zzr (zzo ?_)
 refine zzc ?_
 refine zzy [0, 1, 0, 4, 15, 31, 63, 127, 127, 0, 767, 2047] [(0, []), (2, []), (3, []), (9, []), (1, []), (4, []), (5, []), (6, []), (7, []), (8, []), (10, []), (11, [])] (by kernel_rfl) (by kernel_rfl) ?_
 refine zza 12 (.v (.int .i64 z)) ?_
 refine zza 14 (.adr 2 1) ?_
 refine zzh 15 (.v (.int .i64 W.f)) ty3 zzk ?_
 refine zzj 5 ⟨41, [.bool false, .slice none 0 0, .slice none 0 0]⟩ ?_
 refine zzf 13 13 [.int .i64 z] ?_
 intro w15 u15 e15 d15
 have k20 := k_rqOf d15 (z := z) (by omega) (by omega)
 with_reducible refine zPm k20 ?_
 rintro _ u18 g19 ⟨r16, rfl, h17⟩
 refine zzf 16 70 [.int .i64 W.f] ?_
 intro w21 u21 e21 d21
 have k26 := k_powerI (z := W.f) d21 (by omega) (by omega)
 with_reducible refine zPm k26 ?_
 rintro _ u24 g25 ⟨r22, rfl, h23⟩
 refine zzf 17 69 [r16.v, r22.v] ?_
 intro w27 u27 e27 d27
 have k32 := k_rqDivN d27 (h17.ext (e21.trans (g25.ext.trans e27))).raw (h23.ext e27).raw (Nt.p2i_ne _) (by omega) (by omega)
 with_reducible refine zPm k32 ?_
 rintro _ u30 g31 ⟨r28, rfl, h29⟩
 refine zza 11 (.v (.tuple #[r28.v, .int .i64 0])) ?_
 refine zza 18 (.v (r28.v)) ?_
 refine zza 19 (.v (.int .i64 0)) ?_
 refine zzi ⟨41, r28.cs⟩ ty41 ?_
 refine zza 6 (.v (.int .i64 0)) ?_
 refine zzb 21 [(4, .adr 4 0), (5, .adr 5 0)] [(4, ⟨41, [.bool false, .slice none 0 0, .slice none 0 0]⟩), (5, ⟨41, r28.cs⟩)] ?_
 refine sq9 ?_
 refine zzh 20 (.v (r28.v)) ty41 zzd ?_
 refine zzi ⟨41, r28.cs⟩ ty41 ?_
 refine zzb 21 [(4, .adr 4 0)] [(4, ⟨41, r28.cs⟩)] ?_
 refine zzn (ret0 [r28.v] ⟨zzq ty41 zzd, trivial⟩ fun u33 e34 => ?_)
 exact ⟨r28, rfl, RatN.more (K := (2 + 2 + 1)) (h29.ext e34) (by omega)⟩
instance wdDec (W : WL) : Decidable (WdOK W) := by unfold WdOK; exact inferInstance
namespace Nt
def fitB (W : WL) (z : Int) : Bool := decide (-p2i (W.b - 1) ≤ z) && decide (z ≤ p2i (W.b - 1) - 1)
theorem fit_iff {W : WL} {z : Int} : fitB W z = true ↔ -p2i (W.b - 1) ≤ z ∧ z ≤ p2i (W.b - 1) - 1 := by unfold fitB; simp
def lowB (W : WL) (z : Int) : Bool := decide (-(p2i W.f - 1) ≤ z) && decide (z ≤ p2i W.f - 1)
theorem low_iff {W : WL} {z : Int} : lowB W z = true ↔ -(p2i W.f - 1) ≤ z ∧ z ≤ p2i W.f - 1 := by unfold lowB; simp
def latE (W : WL) (l m : List Int) : Int :=
 if ¬ WdOK W then 2 else if 8 < l.length ∨ m.length ≠ l.length + 1 then 12 else
  if ¬ ((∀ i, i < m.length → fitB W (m.getD i 0) = true) ∧ (∀ i, i < l.length → (fitB W (l.getD i 0) && fitB W (-l.getD i 0)) = true)) then 17 else
   if ¬ (∀ i, i < l.length → lowB W (l.getD i 0) = true) then 14 else 0
variable {W : WL} {l m : List Int} {i : Nat}
theorem latE_2 (h : ¬ WdOK W) : latE W l m = 2 := by unfold latE; rw [if_pos h]
theorem latE_12 (hW : WdOK W) (h : 8 < l.length ∨ m.length ≠ l.length + 1) : latE W l m = 12 := by unfold latE; rw [if_neg (not_not_intro hW), if_pos h]
theorem latE_17m (hW : WdOK W) (hl : l.length ≤ 8) (hm : m.length = l.length + 1) (hi : i < m.length) (h : fitB W (m.getD i 0) = false) : latE W l m = 17 := by
 unfold latE
 rw [if_neg (not_not_intro hW), if_neg (by omega), if_pos (fun k => by rw [k.1 i hi] at h; cases h)]
theorem latE_17l (hW : WdOK W) (hl : l.length ≤ 8) (hm : m.length = l.length + 1) (hi : i < l.length) (h : (fitB W (l.getD i 0) && fitB W (-l.getD i 0)) = false) : latE W l m = 17 := by
 unfold latE
 rw [if_neg (not_not_intro hW), if_neg (by omega), if_pos (fun k => by rw [k.2 i hi] at h; cases h)]
theorem latE_14 (hW : WdOK W) (hl : l.length ≤ 8) (hm : m.length = l.length + 1) (h1 : ∀ i, i < m.length → fitB W (m.getD i 0) = true) (h2 : ∀ i, i < l.length → (fitB W (l.getD i 0) && fitB W (-l.getD i 0)) = true) (hi : i < l.length) (h : lowB W (l.getD i 0) = false) : latE W l m = 14 := by
 unfold latE
 rw [if_neg (not_not_intro hW), if_neg (by omega), if_neg (not_not_intro ⟨h1, h2⟩), if_pos (fun k => by rw [k i hi] at h; cases h)]
theorem latE_0 (hW : WdOK W) (hl : l.length ≤ 8) (hm : m.length = l.length + 1) (h1 : ∀ i, i < m.length → fitB W (m.getD i 0) = true) (h2 : ∀ i, i < l.length → (fitB W (l.getD i 0) && fitB W (-l.getD i 0)) = true) (h3 : ∀ i, i < l.length → lowB W (l.getD i 0) = true) : latE W l m = 0 := by
 unfold latE
 rw [if_neg (not_not_intro hW), if_neg (by omega), if_neg (not_not_intro ⟨h1, h2⟩), if_neg (not_not_intro h3)]
theorem mem_getD {l : List Int} {z : Int} (h : z ∈ l) : ∃ i, i < l.length ∧ l.getD i 0 = z := by
 obtain ⟨i, hi, e⟩ := List.mem_iff_getElem.1 h
 exact ⟨i, hi, by rw [List.getD_eq_getElem?_getD, List.getElem?_eq_getElem hi]; exact e⟩
theorem latE_ok (h : latE W l m = 0) : WdOK W ∧ l.length ≤ 8 ∧ m.length = l.length + 1 ∧ (∀ z ∈ l, -(p2i W.f - 1) ≤ z ∧ z ≤ p2i W.f - 1) ∧ (∀ z ∈ m, -p2i (W.b - 1) ≤ z ∧ z ≤ p2i (W.b - 1)) := by
 by_cases hW : WdOK W
 ·by_cases hl : 8 < l.length ∨ m.length ≠ l.length + 1
  ·rw [latE_12 hW hl] at h; cases h
  ·by_cases h1 : (∀ i, i < m.length → fitB W (m.getD i 0) = true) ∧ (∀ i, i < l.length → (fitB W (l.getD i 0) && fitB W (-l.getD i 0)) = true)
   ·by_cases h2 : ∀ i, i < l.length → lowB W (l.getD i 0) = true
    ·refine ⟨hW, by omega, by omega, fun z hz => ?_, fun z hz => ?_⟩
     ·obtain ⟨i, hi, rfl⟩ := mem_getD hz
      exact low_iff.1 (h2 i hi)
     ·obtain ⟨i, hi, rfl⟩ := mem_getD hz
      have := fit_iff.1 (h1.1 i hi)
      omega
    ·unfold latE at h
     rw [if_neg (not_not_intro hW), if_neg hl, if_neg (not_not_intro h1), if_pos h2] at h; cases h
   ·unfold latE at h
    rw [if_neg (not_not_intro hW), if_neg hl, if_pos h1] at h; cases h
 ·rw [latE_2 hW] at h; cases h
end Nt
theorem k_modeG {u w : World} {r : Int} (d : Dat u w) : Calls Tryz.prog 152 #[.int .i64 r] w (Post u w fun v _ => v = .bool (decide (1 ≤ r) && decide (r ≤ 3))) := by
 refine zzl (args := [.int .i64 r]) Tryz.func152 rfl Tryz.ntmps152 (rs := [.tmp 2]) Tryz.results152 (le_b rfl) (le_b rfl) d ?_
 refine sq9 ?_
 refine zza 2 (.v (.bool false)) ?_
 refine zzb 9 [(0, .v (.int .i64 r))] [] ?_
 refine sq9 ?_
 refine zza 3 (.v (.int .i64 r)) ?_
 refine zza 4 (.v (.bool (decide ((1 : Int) ≤ r)))) ?_
 rcases Bool.eq_false_or_eq_true (decide ((1 : Int) ≤ r)) with hs11 | hs11
 ·refine zyp 5 (x := .v (.bool (decide ((1 : Int) ≤ r)))) (.v (.bool true)) (by rw [hs11]) ?_
  have qhs11 := of_decide_eq_true hs11
  refine zza 6 (.v (.int .i64 r)) ?_ (hw := w1 2 true 5)
  refine zza 7 (.v (.bool (decide (r ≤ 3)))) ?_ (hw := w1 2 true 5)
  refine zza 8 (.v (.bool (decide (r ≤ 3)))) ?_
  refine zza 2 (.v (.bool (decide (r ≤ 3)))) ?_
  refine zzb 9 [(2, .v (.bool (decide (r ≤ 3))))] [] ?_
  refine zzn (ret0 [.bool (decide (r ≤ 3))] ⟨zzp, trivial⟩ fun u12 e13 => ?_)
  show Value.bool _ = Value.bool _
  congr 1
  rw [Bool.eq_iff_iff]
  simp
  omega
 ·refine zyp 5 (x := .v (.bool (decide ((1 : Int) ≤ r)))) (.v (.bool false)) (by rw [hs11]) ?_
  have qhs11 := of_decide_eq_false hs11
  refine zzm 6 (uw 2 true false 5) ?_
  refine zzm 7 (uw 2 true false 5) ?_
  refine zza 8 (.v (.bool false)) ?_
  refine zza 2 (.v (.bool false)) ?_
  refine zzb 9 [(2, .v (.bool false))] [] ?_
  refine zzn (ret0 [.bool false] ⟨zzp, trivial⟩ fun u14 e15 => ?_)
  show Value.bool _ = Value.bool _
  congr 1
  rw [Bool.eq_iff_iff]
  simp
  omega
theorem k_fxValidG {u w : World} {W : WL} (d : Dat u w) : Calls Tryz.prog 75 #[W.v] w (Post u w fun v _ => v = .bool (decide (WdOK W))) := by
 refine zzl (args := [.agg #[.int .i64 W.b, .int .i64 W.f, .int .i64 W.r, .int .i64 W.o]]) Tryz.func75 rfl Tryz.ntmps75 (rs := [.tmp 2]) Tryz.results75 (le_b rfl) (le_b rfl) d ?_
 refine sq9 ?_
 refine zzj 1 ⟨24, W.cs⟩ ?_
 refine zza 2 (.v (.bool false)) ?_
 refine zzb 36 [(1, .adr 1 0)] [(1, ⟨24, W.cs⟩)] ?_
 refine zzc ?_
 refine sq9 ?_
 refine zza 3 (.adr 1 0) ?_
 refine zzh 4 (.v (.int .i64 W.b)) ty3 zzk ?_
 refine zza 5 (.v (.bool (decide (W.b < 4)))) ?_
 rcases Bool.eq_false_or_eq_true (decide (W.b < 4)) with hs11 | hs11
 ·refine zyp 6 (x := .v (.bool (decide (W.b < 4)))) (.v (.bool true)) (by rw [hs11]) ?_
  have qhs11 := of_decide_eq_true hs11
  refine zzm 7 (uw 3 false true 6) ?_
  refine zzm 8 (uw 3 false true 6) ?_
  refine zzm 9 (uw 3 false true 6) ?_
  refine zza 10 (.v (.bool true)) ?_
  refine zza 11 (.v (.bool true)) ?_
  refine zzm 12 (uw 8 false true 11) ?_
  refine zzm 13 (uw 8 false true 11) ?_
  refine zzm 14 (uw 8 false true 11) ?_
  refine zza 15 (.v (.bool true)) ?_
  refine zza 16 (.v (.bool true)) ?_
  refine zzm 17 (uw 13 false true 16) ?_
  refine zzm 18 (uw 13 false true 16) ?_
  refine zzm 19 (uw 13 false true 16) ?_
  refine zzm 20 (uw 13 false true 16) ?_
  refine zzm 21 (uw 13 false true 16) ?_
  refine zza 22 (.v (.bool true)) ?_
  refine zzb 36 [(1, .adr 1 0), (22, .v (.bool true))] [(1, ⟨24, W.cs⟩)] ?_
  refine zyq (by kernel_rfl) ?_
  refine sq9 ?_
  refine zza 2 (.v (.bool false)) ?_
  refine zzb 36 [(2, .v (.bool false))] [] ?_
  refine zzn (zzv (ret0 [.bool false] ⟨zzp, trivial⟩ fun u12 e13 => ?_))
  show Value.bool _ = Value.bool _
  congr 1
  exact (decide_eq_false (by unfold WdOK; omega)).symm
 ·refine zyp 6 (x := .v (.bool (decide (W.b < 4)))) (.v (.bool false)) (by rw [hs11]) ?_
  have qhs11 := of_decide_eq_false hs11
  refine zza 7 (.adr 1 0) ?_ (hw := w1 3 false 6)
  refine zzh 8 (.v (.int .i64 W.b)) ty3 zzk ?_ (hw := w1 3 false 6)
  refine zza 9 (.v (.bool (decide ((24 : Int) < W.b)))) ?_ (hw := w1 3 false 6)
  refine zza 10 (.v (.bool (decide ((24 : Int) < W.b)))) ?_
  rcases Bool.eq_false_or_eq_true (decide ((24 : Int) < W.b)) with hs14 | hs14
  ·refine zyp 11 (x := .v (.bool (decide ((24 : Int) < W.b)))) (.v (.bool true)) (by rw [hs14]) ?_
   have qhs14 := of_decide_eq_true hs14
   refine zzm 12 (uw 8 false true 11) ?_
   refine zzm 13 (uw 8 false true 11) ?_
   refine zzm 14 (uw 8 false true 11) ?_
   refine zza 15 (.v (.bool true)) ?_
   refine zza 16 (.v (.bool true)) ?_
   refine zzm 17 (uw 13 false true 16) ?_
   refine zzm 18 (uw 13 false true 16) ?_
   refine zzm 19 (uw 13 false true 16) ?_
   refine zzm 20 (uw 13 false true 16) ?_
   refine zzm 21 (uw 13 false true 16) ?_
   refine zza 22 (.v (.bool true)) ?_
   refine zzb 36 [(1, .adr 1 0), (22, .v (.bool true))] [(1, ⟨24, W.cs⟩)] ?_
   refine zyq (by kernel_rfl) ?_
   refine sq9 ?_
   refine zza 2 (.v (.bool false)) ?_
   refine zzb 36 [(2, .v (.bool false))] [] ?_
   refine zzn (zzv (ret0 [.bool false] ⟨zzp, trivial⟩ fun u15 e16 => ?_))
   show Value.bool _ = Value.bool _
   congr 1
   exact (decide_eq_false (by unfold WdOK; omega)).symm
  ·refine zyp 11 (x := .v (.bool (decide ((24 : Int) < W.b)))) (.v (.bool false)) (by rw [hs14]) ?_
   have qhs14 := of_decide_eq_false hs14
   refine zza 12 (.adr 1 1) ?_ (hw := w1 8 false 11)
   refine zzh 13 (.v (.int .i64 W.f)) ty3 zzk ?_ (hw := w1 8 false 11)
   refine zza 14 (.v (.bool (decide (W.f < 0)))) ?_ (hw := w1 8 false 11)
   refine zza 15 (.v (.bool (decide (W.f < 0)))) ?_
   rcases Bool.eq_false_or_eq_true (decide (W.f < 0)) with hs17 | hs17
   ·refine zyp 16 (x := .v (.bool (decide (W.f < 0)))) (.v (.bool true)) (by rw [hs17]) ?_
    have qhs17 := of_decide_eq_true hs17
    refine zzm 17 (uw 13 false true 16) ?_
    refine zzm 18 (uw 13 false true 16) ?_
    refine zzm 19 (uw 13 false true 16) ?_
    refine zzm 20 (uw 13 false true 16) ?_
    refine zzm 21 (uw 13 false true 16) ?_
    refine zza 22 (.v (.bool true)) ?_
    refine zzb 36 [(1, .adr 1 0), (22, .v (.bool true))] [(1, ⟨24, W.cs⟩)] ?_
    refine zyq (by kernel_rfl) ?_
    refine sq9 ?_
    refine zza 2 (.v (.bool false)) ?_
    refine zzb 36 [(2, .v (.bool false))] [] ?_
    refine zzn (zzv (ret0 [.bool false] ⟨zzp, trivial⟩ fun u18 e19 => ?_))
    show Value.bool _ = Value.bool _
    congr 1
    exact (decide_eq_false (by unfold WdOK; omega)).symm
   ·refine zyp 16 (x := .v (.bool (decide (W.f < 0)))) (.v (.bool false)) (by rw [hs17]) ?_
    have qhs17 := of_decide_eq_false hs17
    refine zza 17 (.adr 1 1) ?_ (hw := w1 13 false 16)
    refine zzh 18 (.v (.int .i64 W.f)) ty3 zzk ?_ (hw := w1 13 false 16)
    refine zza 19 (.adr 1 0) ?_ (hw := w1 13 false 16)
    refine zzh 20 (.v (.int .i64 W.b)) ty3 zzk ?_ (hw := w1 13 false 16)
    refine zza 21 (.v (.bool (decide (W.b ≤ W.f)))) ?_ (hw := w1 13 false 16)
    refine zza 22 (.v (.bool (decide (W.b ≤ W.f)))) ?_
    refine zzb 36 [(1, .adr 1 0), (22, .v (.bool (decide (W.b ≤ W.f))))] [(1, ⟨24, W.cs⟩)] ?_
    refine zzt (b := decide (W.b ≤ W.f)) (by kernel_rfl) (fun hb20 => ?_) (fun hb20 => ?_)
    ·replace hb20 : (decide (W.b ≤ W.f)) = true := hb20
     have qhb20 := of_decide_eq_true hb20
     refine sq9 ?_
     refine zza 2 (.v (.bool false)) ?_
     refine zzb 36 [(2, .v (.bool false))] [] ?_
     refine zzn (zzv (ret0 [.bool false] ⟨zzp, trivial⟩ fun u21 e22 => ?_))
     show Value.bool _ = Value.bool _
     congr 1
     exact (decide_eq_false (by unfold WdOK; omega)).symm
    ·replace hb20 : (decide (W.b ≤ W.f)) = false := hb20
     have qhb20 := of_decide_eq_false hb20
     refine zzr (zzo ?_)
     refine sq9 ?_
     refine zza 23 (.adr 1 2) ?_
     refine zzh 24 (.v (.int .i64 W.r)) ty3 zzk ?_
     refine zzf 25 152 [.int .i64 W.r] ?_
     intro w23 u23 e23 d23
     have k26 := k_modeG d23 (r := W.r)
     with_reducible refine zPm k26 ?_
     rintro _ u24 g25 rfl
     rcases Bool.eq_false_or_eq_true (decide (1 ≤ W.r) && decide (W.r ≤ 3)) with hs27 | hs27
     ·refine zyp 26 (x := .v (.bool (decide (1 ≤ W.r) && decide (W.r ≤ 3)))) (.v (.bool true)) (by rw [hs27]) ?_
      have qhs27 := hs27
      simp at qhs27
      refine zza 27 (.adr 1 3) ?_ (hw := w1 3 true 26)
      refine zzh 28 (.v (.int .i64 W.o)) ty3 zzk ?_ (hw := w1 3 true 26)
      refine zza 29 (.v (.bool (W.o == 1))) ?_ (hw := w1 3 true 26)
      rcases Bool.eq_false_or_eq_true (W.o == 1) with hs28 | hs28
      ·refine zyp 30 (x := .v (.bool (W.o == 1))) (.v (.bool true)) (by rw [hs28]) ?_ (hw := w1 3 true 26)
       have qhs28 := hs28
       simp at qhs28
       refine zzm 31 (uw 7 false true 30) ?_
       refine zzm 32 (uw 7 false true 30) ?_
       refine zzm 33 (uw 7 false true 30) ?_
       refine zza 34 (.v (.bool true)) ?_ (hw := w1 3 true 26)
       refine zza 35 (.v (.bool true)) ?_
       refine zza 2 (.v (.bool true)) ?_
       refine zzb 36 [(2, .v (.bool true))] [] ?_
       refine zzn (ret0 [.bool true] ⟨zzp, trivial⟩ fun u29 e30 => ?_)
       show Value.bool _ = Value.bool _
       congr 1
       exact (decide_eq_true (by unfold WdOK; omega)).symm
      ·refine zyp 30 (x := .v (.bool (W.o == 1))) (.v (.bool false)) (by rw [hs28]) ?_ (hw := w1 3 true 26)
       have qhs28 := hs28
       simp at qhs28
       refine zza 31 (.adr 1 3) ?_ (hw := w1 7 false 30)
       refine zzh 32 (.v (.int .i64 W.o)) ty3 zzk ?_ (hw := w1 7 false 30)
       refine zza 33 (.v (.bool (W.o == 2))) ?_ (hw := w1 7 false 30)
       refine zza 34 (.v (.bool (W.o == 2))) ?_ (hw := w1 3 true 26)
       refine zza 35 (.v (.bool (W.o == 2))) ?_
       refine zza 2 (.v (.bool (W.o == 2))) ?_
       refine zzb 36 [(2, .v (.bool (W.o == 2)))] [] ?_
       refine zzn (ret0 [.bool (W.o == 2)] ⟨zzp, trivial⟩ fun u31 e32 => ?_)
       show Value.bool _ = Value.bool _
       congr 1
       rw [Bool.eq_iff_iff]
       simp
       unfold WdOK
       omega
     ·refine zyp 26 (x := .v (.bool (decide (1 ≤ W.r) && decide (W.r ≤ 3)))) (.v (.bool false)) (by rw [hs27]) ?_
      have qhs27 := hs27
      simp at qhs27
      refine zzm 27 (uw 3 true false 26) ?_
      refine zzm 28 (uw 3 true false 26) ?_
      refine zzm 29 (uw 3 true false 26) ?_
      refine zzm 30 (uw 3 true false 26) ?_
      refine zzm 31 (unwantedU (g := 7) (b := false) (t := 30) (by kernel_rfl) (by kernel_rfl) (by kernel_rfl)) ?_
      refine zzm 32 (unwantedU (g := 7) (b := false) (t := 30) (by kernel_rfl) (by kernel_rfl) (by kernel_rfl)) ?_
      refine zzm 33 (unwantedU (g := 7) (b := false) (t := 30) (by kernel_rfl) (by kernel_rfl) (by kernel_rfl)) ?_
      refine zzm 34 (uw 3 true false 26) ?_
      refine zza 35 (.v (.bool false)) ?_
      refine zza 2 (.v (.bool false)) ?_
      refine zzb 36 [(2, .v (.bool false))] [] ?_
      refine zzn (ret0 [.bool false] ⟨zzp, trivial⟩ fun u33 e34 => ?_)
      show Value.bool _ = Value.bool _
      congr 1
      exact (decide_eq_false (by unfold WdOK; omega)).symm
theorem k_r21ValidG {u w : World} {W : WL} (d : Dat u w) : Calls Tryz.prog 68 #[W.v] w (Post u w fun v _ => v = .bool (decide (WdOK W))) := by
 refine zzl (args := [.agg #[.int .i64 W.b, .int .i64 W.f, .int .i64 W.r, .int .i64 W.o]]) Tryz.func68 rfl Tryz.ntmps68 (rs := [.tmp 2]) Tryz.results68 (le_b rfl) (le_b rfl) d ?_
 refine sq9 ?_
 refine zzj 1 ⟨24, W.cs⟩ ?_
 refine zza 2 (.v (.bool false)) ?_
 refine zzb 24 [(1, .adr 1 0)] [(1, ⟨24, W.cs⟩)] ?_
 refine sq9 ?_
 refine zza 3 (.adr 1 0) ?_
 refine zzh 4 (.v (.int .i64 W.b)) ty3 zzk ?_
 refine zzf 5 118 [.int .i64 W.b, .int .i64 4, .int .i64 24] ?_
 intro w11 u11 e11 d11
 have k14 := k_in d11 (z := W.b) (a := 4) (b := 24)
 with_reducible refine zPm k14 ?_
 rintro _ u12 g13 rfl
 rcases Bool.eq_false_or_eq_true (decide ((4 : Int) ≤ W.b) && decide (W.b ≤ 24)) with hs15 | hs15
 ·refine zyp 6 (x := .v (.bool (decide ((4 : Int) ≤ W.b) && decide (W.b ≤ 24)))) (.v (.bool true)) (by rw [hs15]) ?_
  have qhs15 := hs15
  simp at qhs15
  refine zza 7 (.adr 1 1) ?_ (hw := w1 3 true 6)
  refine zzh 8 (.v (.int .i64 W.f)) ty3 zzk ?_ (hw := w1 3 true 6)
  refine zza 9 (.adr 1 0) ?_ (hw := w1 3 true 6)
  refine zzh 10 (.v (.int .i64 W.b)) ty3 zzk ?_ (hw := w1 3 true 6)
  refine zyp 11 (x := .v (.int .i64 (IntKind.i64.wrap (W.b - 1)))) (.v (.int .i64 (W.b - 1))) (by rw [IntWalk.i64_in _ (by omega)]) ?_ (hw := w1 3 true 6)
  refine zzf 12 118 [.int .i64 W.f, .int .i64 0, .int .i64 (W.b - 1)] ?_ (hw := w1 3 true 6)
  intro w16 u16 e16 d16
  have k19 := k_in d16 (z := W.f) (a := 0) (b := W.b - 1)
  with_reducible refine zPm k19 ?_
  rintro _ u17 g18 rfl
  refine zza 13 (.v (.bool (decide ((0 : Int) ≤ W.f) && decide (W.f ≤ (W.b - 1))))) ?_
  rcases Bool.eq_false_or_eq_true (decide ((0 : Int) ≤ W.f) && decide (W.f ≤ (W.b - 1))) with hs20 | hs20
  ·refine zyp 14 (x := .v (.bool (decide ((0 : Int) ≤ W.f) && decide (W.f ≤ (W.b - 1))))) (.v (.bool true)) (by rw [hs20]) ?_
   have qhs20 := hs20
   simp at qhs20
   refine zza 15 (.adr 1 2) ?_ (hw := w1 11 true 14)
   refine zzh 16 (.v (.int .i64 W.r)) ty3 zzk ?_ (hw := w1 11 true 14)
   refine zzf 17 118 [.int .i64 W.r, .int .i64 1, .int .i64 3] ?_ (hw := w1 11 true 14)
   intro w21 u21 e21 d21
   have k24 := k_in d21 (z := W.r) (a := 1) (b := 3)
   with_reducible refine zPm k24 ?_
   rintro _ u22 g23 rfl
   refine zza 18 (.v (.bool (decide ((1 : Int) ≤ W.r) && decide (W.r ≤ 3)))) ?_
   rcases Bool.eq_false_or_eq_true (decide ((1 : Int) ≤ W.r) && decide (W.r ≤ 3)) with hs25 | hs25
   ·refine zyp 19 (x := .v (.bool (decide ((1 : Int) ≤ W.r) && decide (W.r ≤ 3)))) (.v (.bool true)) (by rw [hs25]) ?_
    have qhs25 := hs25
    simp at qhs25
    refine zza 20 (.adr 1 3) ?_ (hw := w1 16 true 19)
    refine zzh 21 (.v (.int .i64 W.o)) ty3 zzk ?_ (hw := w1 16 true 19)
    refine zzf 22 118 [.int .i64 W.o, .int .i64 1, .int .i64 2] ?_ (hw := w1 16 true 19)
    intro w26 u26 e26 d26
    have k29 := k_in d26 (z := W.o) (a := 1) (b := 2)
    with_reducible refine zPm k29 ?_
    rintro _ u27 g28 rfl
    refine zza 23 (.v (.bool (decide ((1 : Int) ≤ W.o) && decide (W.o ≤ 2)))) ?_
    refine zza 2 (.v (.bool (decide ((1 : Int) ≤ W.o) && decide (W.o ≤ 2)))) ?_
    refine zzb 24 [(2, .v (.bool (decide ((1 : Int) ≤ W.o) && decide (W.o ≤ 2))))] [] ?_
    refine zzn (ret0 [.bool (decide ((1 : Int) ≤ W.o) && decide (W.o ≤ 2))] ⟨zzp, trivial⟩ fun u30 e31 => ?_)
    show Value.bool _ = Value.bool _
    congr 1
    rw [Bool.eq_iff_iff]
    simp
    unfold WdOK
    omega
   ·refine zyp 19 (x := .v (.bool (decide ((1 : Int) ≤ W.r) && decide (W.r ≤ 3)))) (.v (.bool false)) (by rw [hs25]) ?_
    have qhs25 := hs25
    simp at qhs25
    refine zzm 20 (uw 16 true false 19) ?_
    refine zzm 21 (uw 16 true false 19) ?_
    refine zzm 22 (uw 16 true false 19) ?_
    refine zza 23 (.v (.bool false)) ?_
    refine zza 2 (.v (.bool false)) ?_
    refine zzb 24 [(2, .v (.bool false))] [] ?_
    refine zzn (ret0 [.bool false] ⟨zzp, trivial⟩ fun u32 e33 => ?_)
    show Value.bool _ = Value.bool _
    congr 1
    exact (decide_eq_false (by unfold WdOK; omega)).symm
  ·refine zyp 14 (x := .v (.bool (decide ((0 : Int) ≤ W.f) && decide (W.f ≤ (W.b - 1))))) (.v (.bool false)) (by rw [hs20]) ?_
   have qhs20 := hs20
   simp at qhs20
   refine zzm 15 (uw 11 true false 14) ?_
   refine zzm 16 (uw 11 true false 14) ?_
   refine zzm 17 (uw 11 true false 14) ?_
   refine zza 18 (.v (.bool false)) ?_
   refine zza 19 (.v (.bool false)) ?_
   refine zzm 20 (uw 16 true false 19) ?_
   refine zzm 21 (uw 16 true false 19) ?_
   refine zzm 22 (uw 16 true false 19) ?_
   refine zza 23 (.v (.bool false)) ?_
   refine zza 2 (.v (.bool false)) ?_
   refine zzb 24 [(2, .v (.bool false))] [] ?_
   refine zzn (ret0 [.bool false] ⟨zzp, trivial⟩ fun u34 e35 => ?_)
   show Value.bool _ = Value.bool _
   congr 1
   exact (decide_eq_false (by unfold WdOK; omega)).symm
 ·refine zyp 6 (x := .v (.bool (decide ((4 : Int) ≤ W.b) && decide (W.b ≤ 24)))) (.v (.bool false)) (by rw [hs15]) ?_
  have qhs15 := hs15
  simp at qhs15
  refine zzm 7 (uw 3 true false 6) ?_
  refine zzm 8 (uw 3 true false 6) ?_
  refine zzm 9 (uw 3 true false 6) ?_
  refine zzm 10 (uw 3 true false 6) ?_
  refine zzm 11 (uw 3 true false 6) ?_
  refine zzm 12 (uw 3 true false 6) ?_
  refine zza 13 (.v (.bool false)) ?_
  refine zza 14 (.v (.bool false)) ?_
  refine zzm 15 (uw 11 true false 14) ?_
  refine zzm 16 (uw 11 true false 14) ?_
  refine zzm 17 (uw 11 true false 14) ?_
  refine zza 18 (.v (.bool false)) ?_
  refine zza 19 (.v (.bool false)) ?_
  refine zzm 20 (uw 16 true false 19) ?_
  refine zzm 21 (uw 16 true false 19) ?_
  refine zzm 22 (uw 16 true false 19) ?_
  refine zza 23 (.v (.bool false)) ?_
  refine zza 2 (.v (.bool false)) ?_
  refine zzb 24 [(2, .v (.bool false))] [] ?_
  refine zzn (ret0 [.bool false] ⟨zzp, trivial⟩ fun u36 e37 => ?_)
  show Value.bool _ = Value.bool _
  congr 1
  exact (decide_eq_false (by unfold WdOK; omega)).symm
theorem k_fxFitsG {u w : World} {W : WL} {z : Int} (d : Dat u w) (hW : WdOK W) : Calls Tryz.prog 126 #[W.v, .int .i64 z] w (Post u w fun v _ => v = .bool (Nt.fitB W z)) := by
 obtain ⟨hw1, hw2, hw3, hw4, hw5, hw6, hw7, hw8⟩ := id hW
 refine zzl (args := [.agg #[.int .i64 W.b, .int .i64 W.f, .int .i64 W.r, .int .i64 W.o], .int .i64 z]) Tryz.func126 rfl Tryz.ntmps126 (rs := [.tmp 4]) Tryz.results126 (le_b rfl) (le_b rfl) d ?_
 refine sq9 ?_
 refine zzj 2 ⟨24, W.cs⟩ ?_
 refine zza 4 (.v (.bool false)) ?_
 refine zzb 19 [(1, .v (.int .i64 z)), (2, .adr 2 0)] [(2, ⟨24, W.cs⟩)] ?_
 refine sq9 ?_
 refine zzh 5 (.v (W.v)) ty24 zzd ?_
 refine zzf 6 75 [W.v] ?_
 intro w11 u11 e11 d11
 have k14 := k_fxValid (W := W) d11 hW
 with_reducible refine zPm k14 ?_
 rintro _ u12 g13 rfl
 refine zza 7 (.v (.bool true)) ?_
 refine zza 8 (.v (.int .i64 z)) ?_ (hw := w1 2 true 7)
 refine zzh 9 (.v (W.v)) ty24 zzd ?_ (hw := w1 2 true 7)
 refine zzf 10 169 [W.v] ?_ (hw := w1 2 true 7)
 intro w15 u15 e15 d15
 have k18 := k_fxLow (W := W) d15 hW
 with_reducible refine zPm k18 ?_
 rintro _ u16 g17 rfl
 refine zza 11 (.v (.bool (decide ((-Nt.p2i (W.b - 1)) ≤ z)))) ?_ (hw := w1 2 true 7)
 refine zza 12 (.v (.bool (decide ((-Nt.p2i (W.b - 1)) ≤ z)))) ?_
 rcases Bool.eq_false_or_eq_true (decide ((-Nt.p2i (W.b - 1)) ≤ z)) with hs19 | hs19
 ·refine zyp 13 (x := .v (.bool (decide ((-Nt.p2i (W.b - 1)) ≤ z)))) (.v (.bool true)) (by rw [hs19]) ?_
  have qhs19 := of_decide_eq_true hs19
  refine zza 14 (.v (.int .i64 z)) ?_ (hw := w1 8 true 13)
  refine zzh 15 (.v (W.v)) ty24 zzd ?_ (hw := w1 8 true 13)
  refine zzf 16 170 [W.v] ?_ (hw := w1 8 true 13)
  intro w20 u20 e20 d20
  have k23 := k_fxHigh (W := W) d20 hW
  with_reducible refine zPm k23 ?_
  rintro _ u21 g22 rfl
  refine zza 17 (.v (.bool (decide (z ≤ (Nt.p2i (W.b - 1) - 1))))) ?_ (hw := w1 8 true 13)
  refine zza 18 (.v (.bool (decide (z ≤ (Nt.p2i (W.b - 1) - 1))))) ?_
  refine zza 4 (.v (.bool (decide (z ≤ (Nt.p2i (W.b - 1) - 1))))) ?_
  refine zzb 19 [(4, .v (.bool (decide (z ≤ (Nt.p2i (W.b - 1) - 1)))))] [] ?_
  refine zzn (ret0 [.bool (decide (z ≤ (Nt.p2i (W.b - 1) - 1)))] ⟨zzp, trivial⟩ fun u24 e25 => ?_)
  show Value.bool _ = Value.bool _
  first | rfl | (congr 1; rw [Bool.eq_iff_iff, Nt.fit_iff]; first | (simp; done) | (simp; omega))
 ·refine zyp 13 (x := .v (.bool (decide ((-Nt.p2i (W.b - 1)) ≤ z)))) (.v (.bool false)) (by rw [hs19]) ?_
  have qhs19 := of_decide_eq_false hs19
  refine zzm 14 (uw 8 true false 13) ?_
  refine zzm 15 (uw 8 true false 13) ?_
  refine zzm 16 (uw 8 true false 13) ?_
  refine zzm 17 (uw 8 true false 13) ?_
  refine zza 18 (.v (.bool false)) ?_
  refine zza 4 (.v (.bool false)) ?_
  refine zzb 19 [(4, .v (.bool false))] [] ?_
  refine zzn (ret0 [.bool false] ⟨zzp, trivial⟩ fun u26 e27 => ?_)
  show Value.bool _ = Value.bool _
  first | rfl | (congr 1; rw [Bool.eq_iff_iff, Nt.fit_iff]; first | (simp; done) | (simp; omega))
theorem k_r21Low {u w : World} {W : WL} (d : Dat u w) (hW : WdOK W) : Calls Tryz.prog 185 #[W.v] w (Post u w fun v _ => v = .int .i64 (-Nt.p2i (W.b - 1))) := by
 obtain ⟨hw1, hw2, hw3, hw4, hw5, hw6, hw7, hw8⟩ := id hW
 have hu0 := Nt.p2i_pos W.f
 have hu1 := Nt.p2i_24 (n := W.f) (by omega)
 have hu2 := Nt.p2i_mono (a := W.f) (b := W.b - 1) (by omega)
 have hu3 := Nt.p2i_24 (n := W.b - 1) (by omega)
 refine zzl (args := [.agg #[.int .i64 W.b, .int .i64 W.f, .int .i64 W.r, .int .i64 W.o]]) Tryz.func185 rfl Tryz.ntmps185 (rs := [.tmp 2]) Tryz.results185 (le_b rfl) (le_b rfl) d ?_
 refine sq9 ?_
 refine zzj 1 ⟨24, W.cs⟩ ?_
 refine zza 2 (.v (.int .i64 0)) ?_
 refine zzb 12 [(1, .adr 1 0)] [(1, ⟨24, W.cs⟩)] ?_
 refine zzc ?_
 refine sq9 ?_
 refine zzh 3 (.v (W.v)) ty24 zzd ?_
 refine zzf 4 68 [W.v] ?_
 intro w11 u11 e11 d11
 have k14 := k_r21Valid (W := W) d11 hW
 with_reducible refine zPm k14 ?_
 rintro _ u12 g13 rfl
 refine zza 5 (.v (.bool false)) ?_
 refine zzb 12 [(1, .adr 1 0), (5, .v (.bool false))] [(1, ⟨24, W.cs⟩)] ?_
 refine zyr (by kernel_rfl) ?_
 refine zzr (zzo ?_)
 refine sq9 ?_
 refine zza 6 (.adr 1 0) ?_
 refine zzh 7 (.v (.int .i64 W.b)) ty3 zzk ?_
 refine zyp 8 (x := .v (.int .i64 (IntKind.i64.wrap (W.b - 1)))) (.v (.int .i64 (W.b - 1))) (by rw [IntWalk.i64_in _ (by omega)]) ?_
 refine sy_conv 9 (W.b - 1) (fun w => by kernel_rfl) (IntWalk.u64_in _ (by omega)) ?_
 refine sy_shl 10 (k := .i64) (s := W.b - 1) (Nt.p2i (W.b - 1)) (by omega) (by show _ ≤ (64 : Int); omega) (shl_one (by omega) (by omega)) ?_
 refine zyp 11 (x := .v (.int .i64 (IntKind.i64.wrap (0 - Nt.p2i (W.b - 1))))) (.v (.int .i64 (-Nt.p2i (W.b - 1)))) (by rw [show (IntKind.i64.wrap (0 - Nt.p2i (W.b - 1))) = (-Nt.p2i (W.b - 1)) from (by rw [IntWalk.i64_in _ (by omega)]; omega)]) ?_
 refine zza 2 (.v (.int .i64 (-Nt.p2i (W.b - 1)))) ?_
 refine zzb 12 [(2, .v (.int .i64 (-Nt.p2i (W.b - 1))))] [] ?_
 refine zzn (ret0 [.int .i64 (-Nt.p2i (W.b - 1))] ⟨zzp, trivial⟩ fun u15 e16 => ?_)
 rfl
theorem k_r21High {u w : World} {W : WL} (d : Dat u w) (hW : WdOK W) : Calls Tryz.prog 186 #[W.v] w (Post u w fun v _ => v = .int .i64 (Nt.p2i (W.b - 1) - 1)) := by
 obtain ⟨hw1, hw2, hw3, hw4, hw5, hw6, hw7, hw8⟩ := id hW
 have hu0 := Nt.p2i_pos W.f
 have hu1 := Nt.p2i_24 (n := W.f) (by omega)
 have hu2 := Nt.p2i_mono (a := W.f) (b := W.b - 1) (by omega)
 have hu3 := Nt.p2i_24 (n := W.b - 1) (by omega)
 refine zzl (args := [.agg #[.int .i64 W.b, .int .i64 W.f, .int .i64 W.r, .int .i64 W.o]]) Tryz.func186 rfl Tryz.ntmps186 (rs := [.tmp 2]) Tryz.results186 (le_b rfl) (le_b rfl) d ?_
 refine sq9 ?_
 refine zzj 1 ⟨24, W.cs⟩ ?_
 refine zza 2 (.v (.int .i64 0)) ?_
 refine zzb 12 [(1, .adr 1 0)] [(1, ⟨24, W.cs⟩)] ?_
 refine zzc ?_
 refine sq9 ?_
 refine zzh 3 (.v (W.v)) ty24 zzd ?_
 refine zzf 4 68 [W.v] ?_
 intro w11 u11 e11 d11
 have k14 := k_r21Valid (W := W) d11 hW
 with_reducible refine zPm k14 ?_
 rintro _ u12 g13 rfl
 refine zza 5 (.v (.bool false)) ?_
 refine zzb 12 [(1, .adr 1 0), (5, .v (.bool false))] [(1, ⟨24, W.cs⟩)] ?_
 refine zyr (by kernel_rfl) ?_
 refine zzr (zzo ?_)
 refine sq9 ?_
 refine zza 6 (.adr 1 0) ?_
 refine zzh 7 (.v (.int .i64 W.b)) ty3 zzk ?_
 refine zyp 8 (x := .v (.int .i64 (IntKind.i64.wrap (W.b - 1)))) (.v (.int .i64 (W.b - 1))) (by rw [IntWalk.i64_in _ (by omega)]) ?_
 refine sy_conv 9 (W.b - 1) (fun w => by kernel_rfl) (IntWalk.u64_in _ (by omega)) ?_
 refine sy_shl 10 (k := .i64) (s := W.b - 1) (Nt.p2i (W.b - 1)) (by omega) (by show _ ≤ (64 : Int); omega) (shl_one (by omega) (by omega)) ?_
 refine zyp 11 (x := .v (.int .i64 (IntKind.i64.wrap ((Nt.p2i (W.b - 1)) - 1)))) (.v (.int .i64 ((Nt.p2i (W.b - 1)) - 1))) (by rw [IntWalk.i64_in _ (by omega)]) ?_
 refine zza 2 (.v (.int .i64 ((Nt.p2i (W.b - 1)) - 1))) ?_
 refine zzb 12 [(2, .v (.int .i64 ((Nt.p2i (W.b - 1)) - 1)))] [] ?_
 refine zzn (ret0 [.int .i64 ((Nt.p2i (W.b - 1)) - 1)] ⟨zzp, trivial⟩ fun u15 e16 => ?_)
 rfl
theorem k_r21FitsG {u w : World} {W : WL} {z : Int} (d : Dat u w) (hW : WdOK W) : Calls Tryz.prog 153 #[W.v, .int .i64 z] w (Post u w fun v _ => v = .bool (Nt.fitB W z)) := by
 obtain ⟨hw1, hw2, hw3, hw4, hw5, hw6, hw7, hw8⟩ := id hW
 refine zzl (args := [.agg #[.int .i64 W.b, .int .i64 W.f, .int .i64 W.r, .int .i64 W.o], .int .i64 z]) Tryz.func153 rfl Tryz.ntmps153 (rs := [.tmp 4]) Tryz.results153 (le_b rfl) (le_b rfl) d ?_
 refine sq9 ?_
 refine zzj 2 ⟨24, W.cs⟩ ?_
 refine zza 4 (.v (.bool false)) ?_
 refine zzb 15 [(1, .v (.int .i64 z)), (2, .adr 2 0)] [(2, ⟨24, W.cs⟩)] ?_
 refine zzc ?_
 refine zzy [0, 1, 3, 7, 7, 23, 7, 119, 255, 511, 1023] [(0, []), (1, []), (2, []), (3, []), (4, []), (6, []), (5, []), (7, []), (8, []), (9, []), (10, [])] (by kernel_rfl) (by kernel_rfl) ?_
 refine zzh 5 (.v (W.v)) ty24 zzd ?_
 refine zzf 6 68 [W.v] ?_
 intro w11 u11 e11 d11
 have k14 := k_r21Valid (W := W) d11 hW
 with_reducible refine zPm k14 ?_
 rintro _ u12 g13 rfl
 refine zza 7 (.v (.bool true)) ?_
 refine zza 8 (.v (.int .i64 z)) ?_ (hw := w1 2 true 7)
 refine zzh 9 (.v (W.v)) ty24 zzd ?_ (hw := w1 2 true 7)
 refine zzh 11 (.v (W.v)) ty24 zzd ?_ (hw := w1 2 true 7)
 refine zzf 10 185 [W.v] ?_ (hw := w1 2 true 7)
 intro w15 u15 e15 d15
 have k18 := k_r21Low (W := W) d15 hW
 with_reducible refine zPm k18 ?_
 rintro _ u16 g17 rfl
 refine zzf 12 186 [W.v] ?_ (hw := w1 2 true 7)
 intro w19 u19 e19 d19
 have k22 := k_r21High (W := W) d19 hW
 with_reducible refine zPm k22 ?_
 rintro _ u20 g21 rfl
 refine zzf 13 118 [.int .i64 z, .int .i64 (-Nt.p2i (W.b - 1)), .int .i64 (Nt.p2i (W.b - 1) - 1)] ?_ (hw := w1 2 true 7)
 intro w23 u23 e23 d23
 have k26 := k_in d23 (z := z) (a := -Nt.p2i (W.b - 1)) (b := Nt.p2i (W.b - 1) - 1)
 with_reducible refine zPm k26 ?_
 rintro _ u24 g25 rfl
 refine zza 14 (.v (.bool (decide ((-Nt.p2i (W.b - 1)) ≤ z) && decide (z ≤ (Nt.p2i (W.b - 1) - 1))))) ?_
 refine zza 4 (.v (.bool (decide ((-Nt.p2i (W.b - 1)) ≤ z) && decide (z ≤ (Nt.p2i (W.b - 1) - 1))))) ?_
 refine zzb 15 [(4, .v (.bool (decide ((-Nt.p2i (W.b - 1)) ≤ z) && decide (z ≤ (Nt.p2i (W.b - 1) - 1)))))] [] ?_
 refine zzn (ret0 [.bool (decide ((-Nt.p2i (W.b - 1)) ≤ z) && decide (z ≤ (Nt.p2i (W.b - 1) - 1)))] ⟨zzp, trivial⟩ fun u27 e28 => ?_)
 show Value.bool _ = Value.bool _
 first | rfl | (congr 1; rw [Bool.eq_iff_iff, Nt.fit_iff]; first | (simp; done) | (simp; omega))
set_option maxHeartbeats 4000000 in
theorem k_latWrongG {u w : World} {x y : Sl} {l m : List Int} {W : WL} (d : Dat u w) (hx : SlR .i64 u x.a x.n x.c l) (hb : ∀ z ∈ l, -9223372036854775808 ≤ z ∧ z ≤ 9223372036854775807) (hy : SlR .i64 u y.a y.n y.c m) (hc : ∀ z ∈ m, -9223372036854775808 ≤ z ∧ z ≤ 9223372036854775807) : Calls Tryz.prog 47 #[x.v, y.v, W.v] w (Post u w fun v u' => v = .int .i64 (Nt.latE W l m)) := by
 have hlx : l.length = x.n := hx.1
 have hly : m.length = y.n := hy.1
 have hmx8 := Nat.le_trans hx.2.1 hx.2.2.1
 unfold maxLen at hmx8
 refine zzl (args := [.slice x.a x.n x.c, .slice y.a y.n y.c, .agg #[.int .i64 W.b, .int .i64 W.f, .int .i64 W.r, .int .i64 W.o]]) Tryz.func47 rfl Tryz.ntmps47 (rs := [.tmp 6]) Tryz.results47 (le_b rfl) (le_b rfl) d ?_
 refine sq9 ?_
 refine zzj 5 ⟨24, W.cs⟩ ?_
 refine zza 6 (.v (.int .i64 0)) ?_
 refine zzb 71 [(0, .v x.v), (1, .v y.v), (5, .adr 5 0)] [(5, ⟨24, W.cs⟩)] ?_
 refine zzc ?_
 refine sq9 ?_
 refine zzh 13 (.v (W.v)) ty24 zzd ?_
 refine zzf 14 75 [W.v] ?_
 intro w11 u11 e11 d11
 have k14 := k_fxValidG (W := W) d11
 with_reducible refine zPm k14 ?_
 rintro _ u12 g13 rfl
 refine zza 15 (.v (.bool (!(decide (WdOK W))))) ?_
 refine zzb 71 [(0, .v x.v), (1, .v y.v), (5, .adr 5 0), (15, .v (.bool (!(decide (WdOK W)))))] [(5, ⟨24, W.cs⟩)] ?_
 refine zzt (b := !(decide (WdOK W))) (by kernel_rfl) (fun hb15 => ?_) (fun hb15 => ?_)
 ·replace hb15 : (!(decide (WdOK W))) = true := hb15
  have nhW : ¬ WdOK W := by simpa using hb15
  refine sq9 ?_
  refine zza 6 (.v (.int .i64 2)) ?_
  refine zzb 71 [(6, .v (.int .i64 2))] [] ?_
  refine zzn (zzv (ret0 [.int .i64 2] ⟨zzp, trivial⟩ fun u16 e17 => ?_))
  show Value.int _ _ = Value.int _ _
  rw [Nt.latE_2 nhW]
 ·replace hb15 : (!(decide (WdOK W))) = false := hb15
  have hW : WdOK W := by simpa using hb15
  have hu0 := Nt.p2i_pos W.f
  have hw9 := hW
  unfold WdOK at hw9
  have hu1 := Nt.p2i_24 (n := W.f) (by omega)
  have hu2 := Nt.p2i_mono (a := W.f) (b := W.b - 1) (by omega)
  have hu3 := Nt.p2i_24 (n := W.b - 1) (by omega)
  refine zzr (zzo ?_)
  refine zzc ?_
  refine sq9 ?_
  refine zza 16 (.v x.v) ?_
  refine zza 17 (.v (.int .i64 (x.n : Int))) ?_
  refine zza 18 (.v (.bool (decide ((8 : Int) < (x.n : Int))))) ?_
  rcases Bool.eq_false_or_eq_true (decide ((8 : Int) < (x.n : Int))) with hs18 | hs18
  ·refine zyp 19 (x := .v (.bool (decide ((8 : Int) < (x.n : Int))))) (.v (.bool true)) (by rw [hs18]) ?_
   have qhs18 := of_decide_eq_true hs18
   refine zzm 20 (uw 3 false true 19) ?_
   refine zzm 21 (uw 3 false true 19) ?_
   refine zzm 22 (uw 3 false true 19) ?_
   refine zzm 23 (uw 3 false true 19) ?_
   refine zzm 24 (uw 3 false true 19) ?_
   refine zzm 25 (uw 3 false true 19) ?_
   refine zza 26 (.v (.bool true)) ?_
   refine zzb 71 [(0, .v x.v), (1, .v y.v), (5, .adr 5 0), (26, .v (.bool true))] [(5, ⟨24, W.cs⟩)] ?_
   refine zyq (by kernel_rfl) ?_
   refine sq9 ?_
   refine zza 6 (.v (.int .i64 12)) ?_
   refine zzb 71 [(6, .v (.int .i64 12))] [] ?_
   refine zzn (zzv (ret0 [.int .i64 12] ⟨zzp, trivial⟩ fun u19 e20 => ?_))
   show Value.int _ _ = Value.int _ _
   rw [Nt.latE_12 hW (by omega)]
  ·refine zyp 19 (x := .v (.bool (decide ((8 : Int) < (x.n : Int))))) (.v (.bool false)) (by rw [hs18]) ?_
   have qhs18 := of_decide_eq_false hs18
   refine zza 20 (.v y.v) ?_ (hw := w1 3 false 19)
   refine zza 21 (.v (.int .i64 (y.n : Int))) ?_ (hw := w1 3 false 19)
   refine zza 22 (.v x.v) ?_ (hw := w1 3 false 19)
   refine zza 23 (.v (.int .i64 (x.n : Int))) ?_ (hw := w1 3 false 19)
   refine zyp 24 (x := .v (.int .i64 (IntKind.i64.wrap ((x.n : Int) + 1)))) (.v (.int .i64 ((x.n + 1 : Nat) : Int))) (eqI (by rw [IntWalk.i64_in _ (by omega)]; omega)) ?_ (hw := w1 3 false 19)
   refine zza 25 (.v (.bool ((y.n : Int) != ((x.n + 1 : Nat) : Int)))) ?_ (hw := w1 3 false 19)
   refine zza 26 (.v (.bool ((y.n : Int) != ((x.n + 1 : Nat) : Int)))) ?_
   refine zzb 71 [(0, .v x.v), (1, .v y.v), (5, .adr 5 0), (26, .v (.bool ((y.n : Int) != ((x.n + 1 : Nat) : Int))))] [(5, ⟨24, W.cs⟩)] ?_
   refine zzt (b := (y.n : Int) != ((x.n + 1 : Nat) : Int)) (by kernel_rfl) (fun hb21 => ?_) (fun hb21 => ?_)
   ·replace hb21 : ((y.n : Int) != ((x.n + 1 : Nat) : Int)) = true := hb21
    have qhb21 := hb21
    simp at qhb21
    refine sq9 ?_
    refine zza 6 (.v (.int .i64 12)) ?_
    refine zzb 71 [(6, .v (.int .i64 12))] [] ?_
    refine zzn (zzv (ret0 [.int .i64 12] ⟨zzp, trivial⟩ fun u22 e23 => ?_))
    show Value.int _ _ = Value.int _ _
    rw [Nt.latE_12 hW (by omega)]
   ·replace hb21 : ((y.n : Int) != ((x.n + 1 : Nat) : Int)) = false := hb21
    have qhb21 := hb21
    simp at qhb21
    refine zzr (zzo ?_)
    refine zzc ?_
    refine sq9 ?_
    refine zza 27 (.v y.v) ?_
    refine zza 28 (.v (.int .i64 (y.n : Int))) ?_
    refine zza 29 (.v (.int .i64 0)) ?_
    refine zzb 71 [(0, .v x.v), (5, .adr 5 0), (27, .v y.v), (28, .v (.int .i64 (y.n : Int))), (29, .v (.int .i64 0))] [(5, ⟨24, W.cs⟩)] ?_
    refine zzs ?_
    refine zym (I := fun m24 S' u' => ∃ (i : Nat), (m24 = y.n - i) ∧ (i ≤ y.n) ∧ (∀ j, j < i → Nt.fitB W (m.getD j 0) = true) ∧ (S' = St.of 71 [(0, .v (.slice x.a x.n x.c)), (5, .adr 5 0), (27, .v (.slice y.a y.n y.c)), (28, .v (.int .i64 (y.n : Int))), (29, .v (.int .i64 (i : Int)))] [(5, ⟨24, [.int .i64 W.b, .int .i64 W.f, .int .i64 W.r, .int .i64 W.o]⟩)]) ∧ (Ext u12 u')) (fun m S u1 u2 e h => by obtain ⟨i, hm, p0, p1, hS, hE⟩ := h; exact ⟨i, hm, p0, p1, hS, hE.trans e⟩) _ (T := St.of 71 [(0, .v (.slice x.a x.n x.c)), (5, .adr 5 0), (27, .v (.slice y.a y.n y.c)), (28, .v (.int .i64 (y.n : Int))), (29, .v (.int .i64 0))] [(5, ⟨24, [.int .i64 W.b, .int .i64 W.f, .int .i64 W.r, .int .i64 W.o]⟩)]) (by exact zzu _ _ _) ⟨0, rfl, Nat.zero_le _, fun j hj => absurd hj (Nat.not_lt_zero j), rfl, (Ext.refl _)⟩ ?_
    rintro m24 _ u24 ⟨i, hm24, hi, hm, rfl, e24⟩
    refine sq9 ?_
    refine zza 30 (.v (.bool (decide ((i : Int) < (y.n : Int))))) ?_
    refine zzb 71 [(0, .v x.v), (5, .adr 5 0), (27, .v y.v), (28, .v (.int .i64 (y.n : Int))), (29, .v (.int .i64 (i : Int))), (30, .v (.bool (decide ((i : Int) < (y.n : Int)))))] [(5, ⟨24, W.cs⟩)] ?_
    refine zzc ?_
    refine zzt (b := decide ((i : Int) < (y.n : Int))) (by kernel_rfl) (fun hb25 => ?_) (fun hb25 => ?_)
    ·replace hb25 : (decide ((i : Int) < (y.n : Int))) = true := hb25
     have qhb25 := of_decide_eq_true hb25
     refine zzr (zzo ?_)
     refine zzc ?_
     refine zzs ?_
     refine sq9 ?_
     have hl26 := ((hy.ext (e11.trans (g13.ext.trans e24)))).1
     obtain ⟨b26, o26, hA26, hc26⟩ := ints_at (hy.ext (e11.trans (g13.ext.trans e24))) (i := i) (by omega)
     have hz26 := ints_bd hc (by omega) i
     refine zzz 31 (o26 + i * 1) (n := y.n) (off := o26) (sz := 1) (i := (i : Int)) (by omega) hA26 (by omega) (by omega) sl22 ?_
     refine zyk 32 (.int .i64 (m.getD i 0)) hc26 ty3 ?_
     refine zza 8 (.v (.int .i64 (m.getD i 0))) ?_
     refine zzb 71 [(0, .v x.v), (5, .adr 5 0), (8, .v (.int .i64 (m.getD i 0))), (27, .v y.v), (28, .v (.int .i64 (y.n : Int))), (29, .v (.int .i64 (i : Int)))] [(5, ⟨24, W.cs⟩)] ?_
     refine sq9 ?_
     refine zzh 33 (.v (W.v)) ty24 zzd ?_
     refine zza 34 (.v (.int .i64 (m.getD i 0))) ?_
     refine zzf 35 126 [W.v, .int .i64 (m.getD i 0)] ?_
     intro w27 u27 e27 d27
     have k30 := k_fxFitsG (W := W) (z := (m.getD i 0)) d27 hW
     with_reducible refine zPm k30 ?_
     rintro _ u28 g29 rfl
     refine zza 36 (.v (.bool (!(Nt.fitB W (m.getD i 0))))) ?_
     refine zzb 71 [(0, .v x.v), (5, .adr 5 0), (27, .v y.v), (28, .v (.int .i64 (y.n : Int))), (29, .v (.int .i64 (i : Int))), (36, .v (.bool (!(Nt.fitB W (m.getD i 0)))))] [(5, ⟨24, W.cs⟩)] ?_
     refine zzt (b := !(Nt.fitB W (m.getD i 0))) (by kernel_rfl) (fun hb31 => ?_) (fun hb31 => ?_)
     ·replace hb31 : (!(Nt.fitB W (m.getD i 0))) = true := hb31
      have qhb31 := hb31
      simp only [Bool.not_eq_true'] at qhb31
      refine sq9 ?_
      refine zza 6 (.v (.int .i64 17)) ?_
      refine zzb 71 [(6, .v (.int .i64 17))] [] ?_
      refine zzn (zyt (zzv (zys (zyt (zzv (ret0 [.int .i64 17] ⟨zzp, trivial⟩ fun u32 e33 => ?_))))))
      show Value.int _ _ = Value.int _ _
      rw [Nt.latE_17m hW (by omega) (by omega) (i := i) (by omega) qhb31]
     ·replace hb31 : (!(Nt.fitB W (m.getD i 0))) = false := hb31
      have qhb31 := hb31
      simp only [Bool.not_eq_false'] at qhb31
      have rhb31 := Nt.fit_iff.1 qhb31
      refine zzr (zzo ?_)
      refine zze ?_
      refine zyp 37 (x := .v (.int .i64 (IntKind.i64.wrap ((i : Int) + 1)))) (.v (.int .i64 ((i + 1 : Nat) : Int))) (eqI (by rw [IntWalk.i64_in _ (by omega)]; omega)) ?_
      refine zza 29 (.v (.int .i64 ((i + 1 : Nat) : Int))) ?_
      refine zzw ?_
      refine ⟨_, ?_, St.of 71 [(0, .v (.slice x.a x.n x.c)), (5, .adr 5 0), (27, .v (.slice y.a y.n y.c)), (28, .v (.int .i64 (y.n : Int))), (29, .v (.int .i64 ((i + 1 : Nat) : Int)))] [(5, ⟨24, [.int .i64 W.b, .int .i64 W.f, .int .i64 W.r, .int .i64 W.o]⟩)], by exact zzu _ _ _, i + 1, rfl, by omega, (fun j hj => by by_cases e : j = i; (rw [e]; exact qhb31); exact hm j (by omega)), rfl, (e24.trans (e27.trans g29.ext))⟩
      omega
    ·replace hb25 : (decide ((i : Int) < (y.n : Int))) = false := hb25
     have qhb25 := of_decide_eq_false hb25
     refine zyb ?_
     refine zzo ?_
     refine zzc ?_
     refine zzc ?_
     have hmA : ∀ j, j < m.length → Nt.fitB W (m.getD j 0) = true := fun j hj => hm j (by omega)
     refine zze ?_
     refine zza 38 (.v x.v) ?_
     refine zza 39 (.v (.int .i64 (x.n : Int))) ?_
     refine zza 40 (.v (.int .i64 0)) ?_
     refine zzb 71 [(0, .v x.v), (5, .adr 5 0), (38, .v x.v), (39, .v (.int .i64 (x.n : Int))), (40, .v (.int .i64 0))] [(5, ⟨24, W.cs⟩)] ?_
     refine zzs ?_
     refine zym (I := fun m34 S' u' => ∃ (i : Nat), (m34 = x.n - i) ∧ (i ≤ x.n) ∧ (∀ j, j < i → (Nt.fitB W (l.getD j 0) && Nt.fitB W (-l.getD j 0)) = true) ∧ (S' = St.of 71 [(0, .v (.slice x.a x.n x.c)), (5, .adr 5 0), (38, .v (.slice x.a x.n x.c)), (39, .v (.int .i64 (x.n : Int))), (40, .v (.int .i64 (i : Int)))] [(5, ⟨24, [.int .i64 W.b, .int .i64 W.f, .int .i64 W.r, .int .i64 W.o]⟩)]) ∧ (Ext u24 u')) (fun m S u1 u2 e h => by obtain ⟨i, hm, p0, p1, hS, hE⟩ := h; exact ⟨i, hm, p0, p1, hS, hE.trans e⟩) _ (T := St.of 71 [(0, .v (.slice x.a x.n x.c)), (5, .adr 5 0), (38, .v (.slice x.a x.n x.c)), (39, .v (.int .i64 (x.n : Int))), (40, .v (.int .i64 0))] [(5, ⟨24, [.int .i64 W.b, .int .i64 W.f, .int .i64 W.r, .int .i64 W.o]⟩)]) (by exact zzu _ _ _) ⟨0, rfl, Nat.zero_le _, fun j hj => absurd hj (Nat.not_lt_zero j), rfl, (Ext.refl _)⟩ ?_
     rintro m34 _ u34 ⟨i, hm34, hi, hk, rfl, e34⟩
     refine sq9 ?_
     refine zza 41 (.v (.bool (decide ((i : Int) < (x.n : Int))))) ?_
     refine zzb 71 [(0, .v x.v), (5, .adr 5 0), (38, .v x.v), (39, .v (.int .i64 (x.n : Int))), (40, .v (.int .i64 (i : Int))), (41, .v (.bool (decide ((i : Int) < (x.n : Int)))))] [(5, ⟨24, W.cs⟩)] ?_
     refine zzc ?_
     refine zzt (b := decide ((i : Int) < (x.n : Int))) (by kernel_rfl) (fun hb35 => ?_) (fun hb35 => ?_)
     ·replace hb35 : (decide ((i : Int) < (x.n : Int))) = true := hb35
      have qhb35 := of_decide_eq_true hb35
      refine zzr (zzo ?_)
      refine zzc ?_
      refine zzs ?_
      refine sq9 ?_
      have hl36 := ((hx.ext (e11.trans (g13.ext.trans (e24.trans e34))))).1
      obtain ⟨b36, o36, hA36, hc36⟩ := ints_at (hx.ext (e11.trans (g13.ext.trans (e24.trans e34)))) (i := i) (by omega)
      have hz36 := ints_bd hb (by omega) i
      refine zzz 42 (o36 + i * 1) (n := x.n) (off := o36) (sz := 1) (i := (i : Int)) (by omega) hA36 (by omega) (by omega) sl22 ?_
      refine zyk 43 (.int .i64 (l.getD i 0)) hc36 ty3 ?_
      refine zza 10 (.v (.int .i64 (l.getD i 0))) ?_
      refine zzb 71 [(0, .v x.v), (5, .adr 5 0), (10, .v (.int .i64 (l.getD i 0))), (38, .v x.v), (39, .v (.int .i64 (x.n : Int))), (40, .v (.int .i64 (i : Int)))] [(5, ⟨24, W.cs⟩)] ?_
      refine sq9 ?_
      refine zzh 44 (.v (W.v)) ty24 zzd ?_
      refine zza 45 (.v (.int .i64 (l.getD i 0))) ?_
      refine zzf 46 126 [W.v, .int .i64 (l.getD i 0)] ?_
      intro w37 u37 e37 d37
      have k40 := k_fxFitsG (W := W) (z := (l.getD i 0)) d37 hW
      with_reducible refine zPm k40 ?_
      rintro _ u38 g39 rfl
      refine zza 47 (.v (.bool (!(Nt.fitB W (l.getD i 0))))) ?_
      rcases Bool.eq_false_or_eq_true (!(Nt.fitB W (l.getD i 0))) with hs41 | hs41
      ·refine zyp 48 (x := .v (.bool (!(Nt.fitB W (l.getD i 0))))) (.v (.bool true)) (by rw [hs41]) ?_
       have qhs41 := hs41
       simp only [Bool.not_eq_true'] at qhs41
       refine zzm 49 (uw 4 false true 48) ?_
       refine zzm 50 (uw 4 false true 48) ?_
       refine zzm 51 (uw 4 false true 48) ?_
       refine zzm 52 (uw 4 false true 48) ?_
       refine zzm 53 (uw 4 false true 48) ?_
       refine zza 54 (.v (.bool true)) ?_
       refine zzb 71 [(0, .v x.v), (5, .adr 5 0), (38, .v x.v), (39, .v (.int .i64 (x.n : Int))), (40, .v (.int .i64 (i : Int))), (54, .v (.bool true))] [(5, ⟨24, W.cs⟩)] ?_
       refine zyq (by kernel_rfl) ?_
       refine sq9 ?_
       refine zza 6 (.v (.int .i64 17)) ?_
       refine zzb 71 [(6, .v (.int .i64 17))] [] ?_
       refine zzn (zyt (zzv (zys (zyt (zzv (ret0 [.int .i64 17] ⟨zzp, trivial⟩ fun u42 e43 => ?_))))))
       show Value.int _ _ = Value.int _ _
       rw [Nt.latE_17l hW (by omega) (by omega) (i := i) (by omega) (by rw [qhs41]; rfl)]
      ·refine zyp 48 (x := .v (.bool (!(Nt.fitB W (l.getD i 0))))) (.v (.bool false)) (by rw [hs41]) ?_
       have qhs41 := hs41
       simp only [Bool.not_eq_false'] at qhs41
       have rhs41 := Nt.fit_iff.1 qhs41
       refine zzh 49 (.v (W.v)) ty24 zzd ?_ (hw := w1 4 false 48)
       refine zza 50 (.v (.int .i64 (l.getD i 0))) ?_ (hw := w1 4 false 48)
       refine zyp 51 (x := .v (.int .i64 (IntKind.i64.wrap (0 - (l.getD i 0))))) (.v (.int .i64 (-(l.getD i 0)))) (eqI (by rw [IntWalk.i64_in _ (by omega)]; omega)) ?_ (hw := w1 4 false 48)
       refine zzf 52 126 [W.v, .int .i64 (-(l.getD i 0))] ?_ (hw := w1 4 false 48)
       intro w44 u44 e44 d44
       have k47 := k_fxFitsG (W := W) (z := -(l.getD i 0)) d44 hW
       with_reducible refine zPm k47 ?_
       rintro _ u45 g46 rfl
       refine zza 53 (.v (.bool (!(Nt.fitB W (-(l.getD i 0)))))) ?_ (hw := w1 4 false 48)
       refine zza 54 (.v (.bool (!(Nt.fitB W (-(l.getD i 0)))))) ?_
       refine zzb 71 [(0, .v x.v), (5, .adr 5 0), (38, .v x.v), (39, .v (.int .i64 (x.n : Int))), (40, .v (.int .i64 (i : Int))), (54, .v (.bool (!(Nt.fitB W (-(l.getD i 0))))))] [(5, ⟨24, W.cs⟩)] ?_
       refine zzt (b := !(Nt.fitB W (-(l.getD i 0)))) (by kernel_rfl) (fun hb48 => ?_) (fun hb48 => ?_)
       ·replace hb48 : (!(Nt.fitB W (-(l.getD i 0)))) = true := hb48
        have qhb48 := hb48
        simp only [Bool.not_eq_true'] at qhb48
        refine sq9 ?_
        refine zza 6 (.v (.int .i64 17)) ?_
        refine zzb 71 [(6, .v (.int .i64 17))] [] ?_
        refine zzn (zyt (zzv (zys (zyt (zzv (ret0 [.int .i64 17] ⟨zzp, trivial⟩ fun u49 e50 => ?_))))))
        show Value.int _ _ = Value.int _ _
        rw [Nt.latE_17l hW (by omega) (by omega) (i := i) (by omega) (by rw [qhs41, qhb48]; rfl)]
       ·replace hb48 : (!(Nt.fitB W (-(l.getD i 0)))) = false := hb48
        have qhb48 := hb48
        simp only [Bool.not_eq_false'] at qhb48
        have rhb48 := Nt.fit_iff.1 qhb48
        refine zzr (zzo ?_)
        refine zze ?_
        refine zyp 55 (x := .v (.int .i64 (IntKind.i64.wrap ((i : Int) + 1)))) (.v (.int .i64 ((i + 1 : Nat) : Int))) (eqI (by rw [IntWalk.i64_in _ (by omega)]; omega)) ?_
        refine zza 40 (.v (.int .i64 ((i + 1 : Nat) : Int))) ?_
        refine zzw ?_
        refine ⟨_, ?_, St.of 71 [(0, .v (.slice x.a x.n x.c)), (5, .adr 5 0), (38, .v (.slice x.a x.n x.c)), (39, .v (.int .i64 (x.n : Int))), (40, .v (.int .i64 ((i + 1 : Nat) : Int)))] [(5, ⟨24, [.int .i64 W.b, .int .i64 W.f, .int .i64 W.r, .int .i64 W.o]⟩)], by exact zzu _ _ _, i + 1, rfl, by omega, (fun j hj => by by_cases e : j = i; (rw [e]; exact (by rw [qhs41, qhb48]; rfl)); exact hk j (by omega)), rfl, (e34.trans (e37.trans (g39.ext.trans (e44.trans g46.ext))))⟩
        omega
     ·replace hb35 : (decide ((i : Int) < (x.n : Int))) = false := hb35
      have qhb35 := of_decide_eq_false hb35
      refine zyb ?_
      refine zzo ?_
      refine zzc ?_
      refine zzc ?_
      have hlA : ∀ j, j < l.length → (Nt.fitB W (l.getD j 0) && Nt.fitB W (-l.getD j 0)) = true := fun j hj => hk j (by omega)
      refine zze ?_
      refine zza 56 (.v x.v) ?_
      refine zza 57 (.v (.int .i64 (x.n : Int))) ?_
      refine zza 58 (.v (.int .i64 0)) ?_
      refine zzb 71 [(5, .adr 5 0), (56, .v x.v), (57, .v (.int .i64 (x.n : Int))), (58, .v (.int .i64 0))] [(5, ⟨24, W.cs⟩)] ?_
      refine zzs ?_
      refine zym (I := fun m51 S' u' => ∃ (i : Nat), (m51 = x.n - i) ∧ (i ≤ x.n) ∧ (∀ j, j < i → Nt.lowB W (l.getD j 0) = true) ∧ (S' = St.of 71 [(5, .adr 5 0), (56, .v (.slice x.a x.n x.c)), (57, .v (.int .i64 (x.n : Int))), (58, .v (.int .i64 (i : Int)))] [(5, ⟨24, [.int .i64 W.b, .int .i64 W.f, .int .i64 W.r, .int .i64 W.o]⟩)]) ∧ (Ext u34 u')) (fun m S u1 u2 e h => by obtain ⟨i, hm, p0, p1, hS, hE⟩ := h; exact ⟨i, hm, p0, p1, hS, hE.trans e⟩) _ (T := St.of 71 [(5, .adr 5 0), (56, .v (.slice x.a x.n x.c)), (57, .v (.int .i64 (x.n : Int))), (58, .v (.int .i64 0))] [(5, ⟨24, [.int .i64 W.b, .int .i64 W.f, .int .i64 W.r, .int .i64 W.o]⟩)]) (by exact zzu _ _ _) ⟨0, rfl, Nat.zero_le _, fun j hj => absurd hj (Nat.not_lt_zero j), rfl, (Ext.refl _)⟩ ?_
      rintro m51 _ u51 ⟨i, hm51, hi, hs, rfl, e51⟩
      refine sq9 ?_
      refine zza 59 (.v (.bool (decide ((i : Int) < (x.n : Int))))) ?_
      refine zzb 71 [(5, .adr 5 0), (56, .v x.v), (57, .v (.int .i64 (x.n : Int))), (58, .v (.int .i64 (i : Int))), (59, .v (.bool (decide ((i : Int) < (x.n : Int)))))] [(5, ⟨24, W.cs⟩)] ?_
      refine zzc ?_
      refine zzt (b := decide ((i : Int) < (x.n : Int))) (by kernel_rfl) (fun hb52 => ?_) (fun hb52 => ?_)
      ·replace hb52 : (decide ((i : Int) < (x.n : Int))) = true := hb52
       have qhb52 := of_decide_eq_true hb52
       refine zzr (zzo ?_)
       refine zzc ?_
       refine zzs ?_
       refine sq9 ?_
       have hl53 := ((hx.ext (e11.trans (g13.ext.trans (e24.trans (e34.trans e51)))))).1
       obtain ⟨b53, o53, hA53, hc53⟩ := ints_at (hx.ext (e11.trans (g13.ext.trans (e24.trans (e34.trans e51))))) (i := i) (by omega)
       have hz53 := ints_bd hb (by omega) i
       refine zzz 60 (o53 + i * 1) (n := x.n) (off := o53) (sz := 1) (i := (i : Int)) (by omega) hA53 (by omega) (by omega) sl22 ?_
       refine zyk 61 (.int .i64 (l.getD i 0)) hc53 ty3 ?_
       refine zza 12 (.v (.int .i64 (l.getD i 0))) ?_
       refine zzb 71 [(5, .adr 5 0), (12, .v (.int .i64 (l.getD i 0))), (56, .v x.v), (57, .v (.int .i64 (x.n : Int))), (58, .v (.int .i64 (i : Int)))] [(5, ⟨24, W.cs⟩)] ?_
       refine zzc ?_
       have h7 := hlA i (by omega)
       rw [Bool.and_eq_true] at h7
       have h6 := Nt.fit_iff.1 h7.1
       refine zze ?_
       refine zza 62 (.v (.int .i64 (l.getD i 0))) ?_
       refine zza 63 (.v (.int .i64 (l.getD i 0))) ?_
       refine zyp 64 (x := .v (.int .i64 (IntKind.i64.wrap (0 - (l.getD i 0))))) (.v (.int .i64 (-(l.getD i 0)))) (eqI (by rw [IntWalk.i64_in _ (by omega)]; omega)) ?_
       obtain ⟨mx54, hmx54, hml54⟩ : ∃ v, (if -(l.getD i 0) > (l.getD i 0) then -(l.getD i 0) else (l.getD i 0)) = v ∧ ((l.getD i 0) ≤ v ∧ -(l.getD i 0) ≤ v ∧ (v = (l.getD i 0) ∨ v = -(l.getD i 0))) := ⟨_, rfl, by split <;> omega⟩
       refine sy_maxN 65 (n := (l.getD i 0)) (m := -(l.getD i 0)) (v := mx54) hmx54 ?_
       refine zza 66 (.adr 5 1) ?_
       refine zzh 67 (.v (.int .i64 W.f)) ty3 zzk ?_
       refine sy_shl 68 (k := .i64) (s := W.f) (Nt.p2i W.f) (by omega) (by show _ ≤ (64 : Int); omega) (shl_one (by omega) (by omega)) ?_
       refine zza 69 (.v (.bool (decide ((Nt.p2i W.f) ≤ mx54)))) ?_
       refine zzb 71 [(5, .adr 5 0), (56, .v x.v), (57, .v (.int .i64 (x.n : Int))), (58, .v (.int .i64 (i : Int))), (69, .v (.bool (decide ((Nt.p2i W.f) ≤ mx54))))] [(5, ⟨24, W.cs⟩)] ?_
       refine zzt (b := decide ((Nt.p2i W.f) ≤ mx54)) (by kernel_rfl) (fun hb55 => ?_) (fun hb55 => ?_)
       ·replace hb55 : (decide ((Nt.p2i W.f) ≤ mx54)) = true := hb55
        have qhb55 := of_decide_eq_true hb55
        refine sq9 ?_
        refine zza 6 (.v (.int .i64 14)) ?_
        refine zzb 71 [(6, .v (.int .i64 14))] [] ?_
        refine zzn (zyt (zzv (zys (zyt (zzv (ret0 [.int .i64 14] ⟨zzp, trivial⟩ fun u56 e57 => ?_))))))
        show Value.int _ _ = Value.int _ _
        rw [Nt.latE_14 hW (by omega) (by omega) hmA hlA (i := i) (by omega) (by rw [Bool.eq_false_iff]; intro h9; have h8 := Nt.low_iff.1 h9; omega)]
       ·replace hb55 : (decide ((Nt.p2i W.f) ≤ mx54)) = false := hb55
        have qhb55 := of_decide_eq_false hb55
        refine zzr (zzo ?_)
        refine zze ?_
        refine zyp 70 (x := .v (.int .i64 (IntKind.i64.wrap ((i : Int) + 1)))) (.v (.int .i64 ((i + 1 : Nat) : Int))) (eqI (by rw [IntWalk.i64_in _ (by omega)]; omega)) ?_
        refine zza 58 (.v (.int .i64 ((i + 1 : Nat) : Int))) ?_
        refine zzw ?_
        refine ⟨_, ?_, St.of 71 [(5, .adr 5 0), (56, .v (.slice x.a x.n x.c)), (57, .v (.int .i64 (x.n : Int))), (58, .v (.int .i64 ((i + 1 : Nat) : Int)))] [(5, ⟨24, [.int .i64 W.b, .int .i64 W.f, .int .i64 W.r, .int .i64 W.o]⟩)], by exact zzu _ _ _, i + 1, rfl, by omega, (fun j hj => by by_cases e : j = i; (rw [e]; exact (Nt.low_iff.2 (by omega))); exact hs j (by omega)), rfl, e51⟩
        omega
      ·replace hb52 : (decide ((i : Int) < (x.n : Int))) = false := hb52
       have qhb52 := of_decide_eq_false hb52
       refine zyb ?_
       refine zzo ?_
       refine zzc ?_
       have hsA : ∀ j, j < l.length → Nt.lowB W (l.getD j 0) = true := fun j hj => hs j (by omega)
       refine zze ?_
       refine zza 6 (.v (.int .i64 0)) ?_
       refine zzb 71 [(6, .v (.int .i64 0))] [] ?_
       refine zzn (ret0 [.int .i64 0] ⟨zzp, trivial⟩ fun u58 e59 => ?_)
       show Value.int _ _ = Value.int _ _
       rw [Nt.latE_0 hW (by omega) (by omega) hmA hlA hsA]
namespace Nt
def fitsB (W : WL) (m : List Int) : Bool := decide (∀ i, i < m.length → fitB W (m.getD i 0) = true)
def ckE (D W : WL) (l m : List Int) : Int := if ¬ WdOK D then 2 else latE W l m
theorem latE_17w {W : WL} {l m : List Int} (hW : WdOK W) (hl : l.length ≤ 8) (hm : m.length = l.length + 1) (h : fitsB W m = false) : latE W l m = 17 := by
 unfold latE
 rw [if_neg (not_not_intro hW), if_neg (by omega), if_pos (fun k => of_decide_eq_false h k.1)]
end Nt
theorem k_words21 {u w : World} {y : Sl} {m : List Int} {W : WL} (d : Dat u w) (hW : WdOK W) (hy : SlR .i64 u y.a y.n y.c m) (hc : ∀ z ∈ m, -9223372036854775808 ≤ z ∧ z ≤ 9223372036854775807) (h9m : m.length ≤ 1000) : Calls Tryz.prog 154 #[W.v, y.v] w (Post u w fun v u' => v = .bool (Nt.fitsB W m)) := by
 have hly : m.length = y.n := hy.1
 refine zzl (args := [.agg #[.int .i64 W.b, .int .i64 W.f, .int .i64 W.r, .int .i64 W.o], .slice y.a y.n y.c]) Tryz.func154 rfl Tryz.ntmps154 (rs := [.tmp 4]) Tryz.results154 (le_b rfl) (le_b rfl) d ?_
 refine sq9 ?_
 refine zzj 2 ⟨24, W.cs⟩ ?_
 refine zza 4 (.v (.bool false)) ?_
 refine zzb 19 [(1, .v y.v), (2, .adr 2 0)] [(2, ⟨24, W.cs⟩)] ?_
 refine zzc ?_
 refine sq9 ?_
 refine zza 5 (.v (.int .i64 0)) ?_
 refine zzb 19 [(1, .v y.v), (2, .adr 2 0), (5, .v (.int .i64 0))] [(2, ⟨24, W.cs⟩)] ?_
 refine zzs ?_
 refine zym (I := fun m11 S' u' => ∃ (i : Nat), (m11 = y.n - i) ∧ (i ≤ y.n) ∧ (∀ j, j < i → Nt.fitB W (m.getD j 0) = true) ∧ (S' = St.of 19 [(1, .v (.slice y.a y.n y.c)), (2, .adr 2 0), (5, .v (.int .i64 (i : Int)))] [(2, ⟨24, [.int .i64 W.b, .int .i64 W.f, .int .i64 W.r, .int .i64 W.o]⟩)]) ∧ (Ext u u')) (fun m S u1 u2 e h => by obtain ⟨i, hm, p0, p1, hS, hE⟩ := h; exact ⟨i, hm, p0, p1, hS, hE.trans e⟩) _ (T := St.of 19 [(1, .v (.slice y.a y.n y.c)), (2, .adr 2 0), (5, .v (.int .i64 0))] [(2, ⟨24, [.int .i64 W.b, .int .i64 W.f, .int .i64 W.r, .int .i64 W.o]⟩)]) (by exact zzu _ _ _) ⟨0, rfl, Nat.zero_le _, fun j hj => absurd hj (Nat.not_lt_zero j), rfl, (Ext.refl _)⟩ ?_
 rintro m11 _ u11 ⟨i, hm11, hi, hm, rfl, e11⟩
 refine zzc ?_
 refine sq9 ?_
 refine zza 6 (.v (.int .i64 (i : Int))) ?_
 refine zza 7 (.v y.v) ?_
 refine zza 8 (.v (.int .i64 (y.n : Int))) ?_
 refine zza 9 (.v (.bool (decide ((i : Int) < (y.n : Int))))) ?_
 refine zzb 19 [(1, .v y.v), (2, .adr 2 0), (5, .v (.int .i64 (i : Int))), (9, .v (.bool (decide ((i : Int) < (y.n : Int)))))] [(2, ⟨24, W.cs⟩)] ?_
 refine zzt (b := decide ((i : Int) < (y.n : Int))) (by kernel_rfl) (fun hb12 => ?_) (fun hb12 => ?_)
 ·replace hb12 : (decide ((i : Int) < (y.n : Int))) = true := hb12
  have qhb12 := of_decide_eq_true hb12
  refine zzr (zzo ?_)
  refine zzc ?_
  refine zzs ?_
  refine zzc ?_
  refine zzy [0, 0, 0, 6, 14, 31, 63] [(0, []), (1, []), (2, []), (3, []), (4, []), (5, []), (6, [])] (by kernel_rfl) (by kernel_rfl) ?_
  refine zzh 12 (.v (W.v)) ty24 zzd ?_
  refine zza 13 (.v y.v) ?_
  refine zza 14 (.v (.int .i64 (i : Int))) ?_
  have hl13 := ((hy.ext e11)).1
  obtain ⟨b13, o13, hA13, hc13⟩ := ints_at (hy.ext e11) (i := i) (by omega)
  have hz13 := ints_bd hc (by omega) i
  refine zzz 15 (o13 + i * 1) (n := y.n) (off := o13) (sz := 1) (i := (i : Int)) (by omega) hA13 (by omega) (by omega) sl22 ?_
  refine zyk 16 (.int .i64 (m.getD i 0)) hc13 ty3 ?_
  refine zzf 17 153 [W.v, .int .i64 (m.getD i 0)] ?_
  intro w14 u14 e14 d14
  have k17 := k_r21FitsG (W := W) (z := (m.getD i 0)) d14 hW
  with_reducible refine zPm k17 ?_
  rintro _ u15 g16 rfl
  refine zza 18 (.v (.bool (!(Nt.fitB W (m.getD i 0))))) ?_
  refine zzb 19 [(1, .v y.v), (2, .adr 2 0), (5, .v (.int .i64 (i : Int))), (18, .v (.bool (!(Nt.fitB W (m.getD i 0)))))] [(2, ⟨24, W.cs⟩)] ?_
  refine zzt (b := !(Nt.fitB W (m.getD i 0))) (by kernel_rfl) (fun hb18 => ?_) (fun hb18 => ?_)
  ·replace hb18 : (!(Nt.fitB W (m.getD i 0))) = true := hb18
   have qhb18 := hb18
   simp only [Bool.not_eq_true'] at qhb18
   refine sq9 ?_
   refine zza 4 (.v (.bool false)) ?_
   refine zzb 19 [(4, .v (.bool false))] [] ?_
   refine zzn (zyt (zzv (zys (zyt (zzv (ret0 [.bool false] ⟨zzp, trivial⟩ fun u19 e20 => ?_))))))
   show Value.bool _ = Value.bool _
   congr 1
   exact (decide_eq_false (fun k => by have h9 := k i (by omega); rw [qhb18] at h9; cases h9)).symm
  ·replace hb18 : (!(Nt.fitB W (m.getD i 0))) = false := hb18
   have qhb18 := hb18
   simp only [Bool.not_eq_false'] at qhb18
   have rhb18 := Nt.fit_iff.1 qhb18
   refine zzr (zzo ?_)
   refine zze ?_
   refine zza 10 (.v (.int .i64 (i : Int))) ?_
   refine zyp 11 (x := .v (.int .i64 (IntKind.i64.wrap ((i : Int) + 1)))) (.v (.int .i64 ((i + 1 : Nat) : Int))) (eqI (by rw [IntWalk.i64_in _ (by omega)]; omega)) ?_
   refine zza 5 (.v (.int .i64 ((i + 1 : Nat) : Int))) ?_
   refine zzw ?_
   refine ⟨_, ?_, St.of 19 [(1, .v (.slice y.a y.n y.c)), (2, .adr 2 0), (5, .v (.int .i64 ((i + 1 : Nat) : Int)))] [(2, ⟨24, [.int .i64 W.b, .int .i64 W.f, .int .i64 W.r, .int .i64 W.o]⟩)], by exact zzu _ _ _, i + 1, rfl, by omega, (fun j hj => by by_cases e : j = i; (rw [e]; exact qhb18); exact hm j (by omega)), rfl, (e11.trans (e14.trans g16.ext))⟩
   omega
 ·replace hb12 : (decide ((i : Int) < (y.n : Int))) = false := hb12
  have qhb12 := of_decide_eq_false hb12
  refine zyb ?_
  refine zzo ?_
  refine sq9 ?_
  refine zza 4 (.v (.bool true)) ?_
  refine zzb 19 [(4, .v (.bool true))] [] ?_
  refine zzn (ret0 [.bool true] ⟨zzp, trivial⟩ fun u21 e22 => ?_)
  show Value.bool _ = Value.bool _
  congr 1
  exact (decide_eq_true (fun j hj => hm j (by omega))).symm
set_option maxHeartbeats 4000000 in
theorem k_checkG {u w : World} {x y : Sl} {l m : List Int} {D W : WL} (d : Dat u w) (hx : SlR .i64 u x.a x.n x.c l) (hb : ∀ z ∈ l, -9223372036854775808 ≤ z ∧ z ≤ 9223372036854775807) (hy : SlR .i64 u y.a y.n y.c m) (hc : ∀ z ∈ m, -9223372036854775808 ≤ z ∧ z ≤ 9223372036854775807) : Calls Tryz.prog 76 #[x.v, y.v, D.v, W.v] w (Post u w fun v u' => v = .int .i64 (Nt.ckE D W l m)) := by
 have hlx : l.length = x.n := hx.1
 have hly : m.length = y.n := hy.1
 have hmx8 := Nat.le_trans hx.2.1 hx.2.2.1
 unfold maxLen at hmx8
 refine zzl (args := [.slice x.a x.n x.c, .slice y.a y.n y.c, .agg #[.int .i64 D.b, .int .i64 D.f, .int .i64 D.r, .int .i64 D.o], .agg #[.int .i64 W.b, .int .i64 W.f, .int .i64 W.r, .int .i64 W.o]]) Tryz.func76 rfl Tryz.ntmps76 (rs := [.tmp 8]) Tryz.results76 (le_b rfl) (le_b rfl) d ?_
 refine sq9 ?_
 refine zzj 6 ⟨24, D.cs⟩ ?_
 refine zzj 7 ⟨24, W.cs⟩ ?_
 refine zza 8 (.v (.int .i64 0)) ?_
 refine zzb 78 [(0, .v x.v), (1, .v y.v), (6, .adr 6 0), (7, .adr 7 0)] [(6, ⟨24, D.cs⟩), (7, ⟨24, W.cs⟩)] ?_
 refine zzc ?_
 refine sq9 ?_
 refine zzh 11 (.v (D.v)) ty24 zzd ?_
 refine zzf 12 68 [D.v] ?_
 intro w11 u11 e11 d11
 have k14 := k_r21ValidG (W := D) d11
 with_reducible refine zPm k14 ?_
 rintro _ u12 g13 rfl
 refine zza 13 (.v (.bool (!(decide (WdOK D))))) ?_
 rcases Bool.eq_false_or_eq_true (!(decide (WdOK D))) with hs15 | hs15
 ·refine zyp 14 (x := .v (.bool (!(decide (WdOK D))))) (.v (.bool true)) (by rw [hs15]) ?_
  have nhD : ¬ WdOK D := by simpa using hs15
  refine zzm 15 (uw 3 false true 14) ?_
  refine zzm 16 (uw 3 false true 14) ?_
  refine zzm 17 (uw 3 false true 14) ?_
  refine zza 18 (.v (.bool true)) ?_
  refine zzb 78 [(0, .v x.v), (1, .v y.v), (7, .adr 7 0), (18, .v (.bool true))] [(7, ⟨24, W.cs⟩)] ?_
  refine zyq (by kernel_rfl) ?_
  refine sq9 ?_
  refine zza 8 (.v (.int .i64 2)) ?_
  refine zzb 78 [(8, .v (.int .i64 2))] [] ?_
  refine zzn (zzv (ret0 [.int .i64 2] ⟨zzp, trivial⟩ fun u16 e17 => ?_))
  show Value.int _ _ = Value.int _ _
  unfold Nt.ckE
  rw [if_pos nhD]
 ·refine zyp 14 (x := .v (.bool (!(decide (WdOK D))))) (.v (.bool false)) (by rw [hs15]) ?_
  have hD : WdOK D := by simpa using hs15
  refine zzh 15 (.v (W.v)) ty24 zzd ?_ (hw := w1 3 false 14)
  refine zzf 16 68 [W.v] ?_ (hw := w1 3 false 14)
  intro w18 u18 e18 d18
  have k21 := k_r21ValidG (W := W) d18
  with_reducible refine zPm k21 ?_
  rintro _ u19 g20 rfl
  refine zza 17 (.v (.bool (!(decide (WdOK W))))) ?_ (hw := w1 3 false 14)
  refine zza 18 (.v (.bool (!(decide (WdOK W))))) ?_
  refine zzb 78 [(0, .v x.v), (1, .v y.v), (7, .adr 7 0), (18, .v (.bool (!(decide (WdOK W)))))] [(7, ⟨24, W.cs⟩)] ?_
  refine zzt (b := !(decide (WdOK W))) (by kernel_rfl) (fun hb22 => ?_) (fun hb22 => ?_)
  ·replace hb22 : (!(decide (WdOK W))) = true := hb22
   have nhW : ¬ WdOK W := by simpa using hb22
   refine sq9 ?_
   refine zza 8 (.v (.int .i64 2)) ?_
   refine zzb 78 [(8, .v (.int .i64 2))] [] ?_
   refine zzn (zzv (ret0 [.int .i64 2] ⟨zzp, trivial⟩ fun u23 e24 => ?_))
   show Value.int _ _ = Value.int _ _
   unfold Nt.ckE
   rw [if_neg (not_not_intro hD), Nt.latE_2 nhW]
  ·replace hb22 : (!(decide (WdOK W))) = false := hb22
   have hW : WdOK W := by simpa using hb22
   have hu0 := Nt.p2i_pos W.f
   have hw9 := hW
   unfold WdOK at hw9
   have hu1 := Nt.p2i_24 (n := W.f) (by omega)
   have hu2 := Nt.p2i_mono (a := W.f) (b := W.b - 1) (by omega)
   have hu3 := Nt.p2i_24 (n := W.b - 1) (by omega)
   refine zzr (zzo ?_)
   refine zzc ?_
   refine sq9 ?_
   refine zza 19 (.v x.v) ?_
   refine zza 20 (.v (.int .i64 (x.n : Int))) ?_
   refine zza 21 (.v (.bool (decide ((8 : Int) < (x.n : Int))))) ?_
   rcases Bool.eq_false_or_eq_true (decide ((8 : Int) < (x.n : Int))) with hs25 | hs25
   ·refine zyp 22 (x := .v (.bool (decide ((8 : Int) < (x.n : Int))))) (.v (.bool true)) (by rw [hs25]) ?_
    have qhs25 := of_decide_eq_true hs25
    refine zzm 23 (uw 3 false true 22) ?_
    refine zzm 24 (uw 3 false true 22) ?_
    refine zzm 25 (uw 3 false true 22) ?_
    refine zzm 26 (uw 3 false true 22) ?_
    refine zzm 27 (uw 3 false true 22) ?_
    refine zzm 28 (uw 3 false true 22) ?_
    refine zza 29 (.v (.bool true)) ?_
    refine zzb 78 [(0, .v x.v), (1, .v y.v), (7, .adr 7 0), (29, .v (.bool true))] [(7, ⟨24, W.cs⟩)] ?_
    refine zyq (by kernel_rfl) ?_
    refine sq9 ?_
    refine zza 8 (.v (.int .i64 12)) ?_
    refine zzb 78 [(8, .v (.int .i64 12))] [] ?_
    refine zzn (zzv (ret0 [.int .i64 12] ⟨zzp, trivial⟩ fun u26 e27 => ?_))
    show Value.int _ _ = Value.int _ _
    unfold Nt.ckE
    rw [if_neg (not_not_intro hD), Nt.latE_12 hW (by omega)]
   ·refine zyp 22 (x := .v (.bool (decide ((8 : Int) < (x.n : Int))))) (.v (.bool false)) (by rw [hs25]) ?_
    have qhs25 := of_decide_eq_false hs25
    refine zza 23 (.v y.v) ?_ (hw := w1 3 false 22)
    refine zza 24 (.v (.int .i64 (y.n : Int))) ?_ (hw := w1 3 false 22)
    refine zza 25 (.v x.v) ?_ (hw := w1 3 false 22)
    refine zza 26 (.v (.int .i64 (x.n : Int))) ?_ (hw := w1 3 false 22)
    refine zyp 27 (x := .v (.int .i64 (IntKind.i64.wrap ((x.n : Int) + 1)))) (.v (.int .i64 ((x.n + 1 : Nat) : Int))) (eqI (by rw [IntWalk.i64_in _ (by omega)]; omega)) ?_ (hw := w1 3 false 22)
    refine zza 28 (.v (.bool ((y.n : Int) != ((x.n + 1 : Nat) : Int)))) ?_ (hw := w1 3 false 22)
    refine zza 29 (.v (.bool ((y.n : Int) != ((x.n + 1 : Nat) : Int)))) ?_
    refine zzb 78 [(0, .v x.v), (1, .v y.v), (7, .adr 7 0), (29, .v (.bool ((y.n : Int) != ((x.n + 1 : Nat) : Int))))] [(7, ⟨24, W.cs⟩)] ?_
    refine zzt (b := (y.n : Int) != ((x.n + 1 : Nat) : Int)) (by kernel_rfl) (fun hb28 => ?_) (fun hb28 => ?_)
    ·replace hb28 : ((y.n : Int) != ((x.n + 1 : Nat) : Int)) = true := hb28
     have qhb28 := hb28
     simp at qhb28
     refine sq9 ?_
     refine zza 8 (.v (.int .i64 12)) ?_
     refine zzb 78 [(8, .v (.int .i64 12))] [] ?_
     refine zzn (zzv (ret0 [.int .i64 12] ⟨zzp, trivial⟩ fun u29 e30 => ?_))
     show Value.int _ _ = Value.int _ _
     unfold Nt.ckE
     rw [if_neg (not_not_intro hD), Nt.latE_12 hW (by omega)]
    ·replace hb28 : ((y.n : Int) != ((x.n + 1 : Nat) : Int)) = false := hb28
     have qhb28 := hb28
     simp at qhb28
     refine zzr (zzo ?_)
     refine zzc ?_
     refine sq9 ?_
     refine zza 9 (.v (.int .i64 0)) ?_
     refine zzb 78 [(0, .v x.v), (1, .v y.v), (7, .adr 7 0), (9, .v (.int .i64 0))] [(7, ⟨24, W.cs⟩)] ?_
     refine zzs ?_
     refine zym (I := fun m31 S' u' => ∃ (i : Nat), (m31 = x.n - i) ∧ (i ≤ x.n) ∧ (∀ j, j < i → (Nt.fitB W (l.getD j 0) && Nt.fitB W (-l.getD j 0)) = true) ∧ (S' = St.of 78 [(0, .v (.slice x.a x.n x.c)), (1, .v (.slice y.a y.n y.c)), (7, .adr 7 0), (9, .v (.int .i64 (i : Int)))] [(7, ⟨24, [.int .i64 W.b, .int .i64 W.f, .int .i64 W.r, .int .i64 W.o]⟩)]) ∧ (Ext u19 u')) (fun m S u1 u2 e h => by obtain ⟨i, hm, p0, p1, hS, hE⟩ := h; exact ⟨i, hm, p0, p1, hS, hE.trans e⟩) _ (T := St.of 78 [(0, .v (.slice x.a x.n x.c)), (1, .v (.slice y.a y.n y.c)), (7, .adr 7 0), (9, .v (.int .i64 0))] [(7, ⟨24, [.int .i64 W.b, .int .i64 W.f, .int .i64 W.r, .int .i64 W.o]⟩)]) (by exact zzu _ _ _) ⟨0, rfl, Nat.zero_le _, fun j hj => absurd hj (Nat.not_lt_zero j), rfl, (Ext.refl _)⟩ ?_
     rintro m31 _ u31 ⟨i, hm31, hi, hk, rfl, e31⟩
     refine zzc ?_
     refine sq9 ?_
     refine zza 30 (.v (.int .i64 (i : Int))) ?_
     refine zza 31 (.v x.v) ?_
     refine zza 32 (.v (.int .i64 (x.n : Int))) ?_
     refine zza 33 (.v (.bool (decide ((i : Int) < (x.n : Int))))) ?_
     refine zzb 78 [(0, .v x.v), (1, .v y.v), (7, .adr 7 0), (9, .v (.int .i64 (i : Int))), (33, .v (.bool (decide ((i : Int) < (x.n : Int)))))] [(7, ⟨24, W.cs⟩)] ?_
     refine zzt (b := decide ((i : Int) < (x.n : Int))) (by kernel_rfl) (fun hb32 => ?_) (fun hb32 => ?_)
     ·replace hb32 : (decide ((i : Int) < (x.n : Int))) = true := hb32
      have qhb32 := of_decide_eq_true hb32
      refine zzr (zzo ?_)
      refine zzc ?_
      refine zzs ?_
      refine zzc ?_
      refine zzy [0, 0, 0, 6, 14, 31, 63, 127, 255, 255, 255, 1791, 3839, 7935, 16383, 32767, 65535] [(0, []), (1, []), (2, []), (3, []), (4, []), (5, []), (6, []), (7, []), (8, []), (9, []), (10, []), (11, []), (12, []), (13, []), (14, []), (15, []), (16, [])] (by kernel_rfl) (by kernel_rfl) ?_
      refine zzh 36 (.v (W.v)) ty24 zzd ?_
      refine zza 37 (.v x.v) ?_
      refine zza 38 (.v (.int .i64 (i : Int))) ?_
      have hl33 := ((hx.ext (e11.trans (g13.ext.trans (e18.trans (g20.ext.trans e31)))))).1
      obtain ⟨b33, o33, hA33, hc33⟩ := ints_at (hx.ext (e11.trans (g13.ext.trans (e18.trans (g20.ext.trans e31))))) (i := i) (by omega)
      have hz33 := ints_bd hb (by omega) i
      refine zzz 39 (o33 + i * 1) (n := x.n) (off := o33) (sz := 1) (i := (i : Int)) (by omega) hA33 (by omega) (by omega) sl22 ?_
      refine zyk 40 (.int .i64 (l.getD i 0)) hc33 ty3 ?_
      refine zzf 41 153 [W.v, .int .i64 (l.getD i 0)] ?_
      intro w34 u34 e34 d34
      have k37 := k_r21FitsG (W := W) (z := (l.getD i 0)) d34 hW
      with_reducible refine zPm k37 ?_
      rintro _ u35 g36 rfl
      refine zza 42 (.v (.bool (!(Nt.fitB W (l.getD i 0))))) ?_
      rcases Bool.eq_false_or_eq_true (!(Nt.fitB W (l.getD i 0))) with hs38 | hs38
      ·refine zyp 43 (x := .v (.bool (!(Nt.fitB W (l.getD i 0))))) (.v (.bool true)) (by rw [hs38]) ?_
       have qhs38 := hs38
       simp only [Bool.not_eq_true'] at qhs38
       refine zzm 44 (uw 7 false true 43) ?_
       refine zzm 45 (uw 7 false true 43) ?_
       refine zzm 46 (uw 7 false true 43) ?_
       refine zzm 47 (uw 7 false true 43) ?_
       refine zzm 48 (uw 7 false true 43) ?_
       refine zzm 49 (uw 7 false true 43) ?_
       refine zzm 50 (uw 7 false true 43) ?_
       refine zzm 51 (uw 7 false true 43) ?_
       refine zza 52 (.v (.bool true)) ?_
       refine zzb 78 [(0, .v x.v), (1, .v y.v), (7, .adr 7 0), (9, .v (.int .i64 (i : Int))), (52, .v (.bool true))] [(7, ⟨24, W.cs⟩)] ?_
       refine zyq (by kernel_rfl) ?_
       refine sq9 ?_
       refine zza 8 (.v (.int .i64 17)) ?_
       refine zzb 78 [(8, .v (.int .i64 17))] [] ?_
       refine zzn (zyt (zzv (zys (zyt (zzv (ret0 [.int .i64 17] ⟨zzp, trivial⟩ fun u39 e40 => ?_))))))
       show Value.int _ _ = Value.int _ _
       unfold Nt.ckE
       rw [if_neg (not_not_intro hD), Nt.latE_17l hW (by omega) (by omega) (i := i) (by omega) (by rw [qhs38]; rfl)]
      ·refine zyp 43 (x := .v (.bool (!(Nt.fitB W (l.getD i 0))))) (.v (.bool false)) (by rw [hs38]) ?_
       have qhs38 := hs38
       simp only [Bool.not_eq_false'] at qhs38
       have rhs38 := Nt.fit_iff.1 qhs38
       refine zzh 44 (.v (W.v)) ty24 zzd ?_ (hw := w1 7 false 43)
       refine zza 45 (.v x.v) ?_ (hw := w1 7 false 43)
       refine zza 46 (.v (.int .i64 (i : Int))) ?_ (hw := w1 7 false 43)
       have hl41 := ((hx.ext (e11.trans (g13.ext.trans (e18.trans (g20.ext.trans (e31.trans (e34.trans g36.ext)))))))).1
       obtain ⟨b41, o41, hA41, hc41⟩ := ints_at (hx.ext (e11.trans (g13.ext.trans (e18.trans (g20.ext.trans (e31.trans (e34.trans g36.ext))))))) (i := i) (by omega)
       have hz41 := ints_bd hb (by omega) i
       refine zzz 47 (o41 + i * 1) (n := x.n) (off := o41) (sz := 1) (i := (i : Int)) (by omega) hA41 (by omega) (by omega) sl22 ?_ (hw := w1 7 false 43)
       refine zyk 48 (.int .i64 (l.getD i 0)) hc41 ty3 ?_ (hw := w1 7 false 43)
       refine zyp 49 (x := .v (.int .i64 (IntKind.i64.wrap (0 - (l.getD i 0))))) (.v (.int .i64 (-(l.getD i 0)))) (eqI (by rw [IntWalk.i64_in _ (by omega)]; omega)) ?_ (hw := w1 7 false 43)
       refine zzf 50 153 [W.v, .int .i64 (-(l.getD i 0))] ?_ (hw := w1 7 false 43)
       intro w42 u42 e42 d42
       have k45 := k_r21FitsG (W := W) (z := -(l.getD i 0)) d42 hW
       with_reducible refine zPm k45 ?_
       rintro _ u43 g44 rfl
       refine zza 51 (.v (.bool (!(Nt.fitB W (-(l.getD i 0)))))) ?_ (hw := w1 7 false 43)
       refine zza 52 (.v (.bool (!(Nt.fitB W (-(l.getD i 0)))))) ?_
       refine zzb 78 [(0, .v x.v), (1, .v y.v), (7, .adr 7 0), (9, .v (.int .i64 (i : Int))), (52, .v (.bool (!(Nt.fitB W (-(l.getD i 0))))))] [(7, ⟨24, W.cs⟩)] ?_
       refine zzt (b := !(Nt.fitB W (-(l.getD i 0)))) (by kernel_rfl) (fun hb46 => ?_) (fun hb46 => ?_)
       ·replace hb46 : (!(Nt.fitB W (-(l.getD i 0)))) = true := hb46
        have qhb46 := hb46
        simp only [Bool.not_eq_true'] at qhb46
        refine sq9 ?_
        refine zza 8 (.v (.int .i64 17)) ?_
        refine zzb 78 [(8, .v (.int .i64 17))] [] ?_
        refine zzn (zyt (zzv (zys (zyt (zzv (ret0 [.int .i64 17] ⟨zzp, trivial⟩ fun u47 e48 => ?_))))))
        show Value.int _ _ = Value.int _ _
        unfold Nt.ckE
        rw [if_neg (not_not_intro hD), Nt.latE_17l hW (by omega) (by omega) (i := i) (by omega) (by rw [qhs38, qhb46]; rfl)]
       ·replace hb46 : (!(Nt.fitB W (-(l.getD i 0)))) = false := hb46
        have qhb46 := hb46
        simp only [Bool.not_eq_false'] at qhb46
        have rhb46 := Nt.fit_iff.1 qhb46
        refine zzr (zzo ?_)
        refine zze ?_
        refine zza 34 (.v (.int .i64 (i : Int))) ?_
        refine zyp 35 (x := .v (.int .i64 (IntKind.i64.wrap ((i : Int) + 1)))) (.v (.int .i64 ((i + 1 : Nat) : Int))) (eqI (by rw [IntWalk.i64_in _ (by omega)]; omega)) ?_
        refine zza 9 (.v (.int .i64 ((i + 1 : Nat) : Int))) ?_
        refine zzw ?_
        refine ⟨_, ?_, St.of 78 [(0, .v (.slice x.a x.n x.c)), (1, .v (.slice y.a y.n y.c)), (7, .adr 7 0), (9, .v (.int .i64 ((i + 1 : Nat) : Int)))] [(7, ⟨24, [.int .i64 W.b, .int .i64 W.f, .int .i64 W.r, .int .i64 W.o]⟩)], by exact zzu _ _ _, i + 1, rfl, by omega, (fun j hj => by by_cases e : j = i; (rw [e]; exact (by rw [qhs38, qhb46]; rfl)); exact hk j (by omega)), rfl, (e31.trans (e34.trans (g36.ext.trans (e42.trans g44.ext))))⟩
        omega
     ·replace hb32 : (decide ((i : Int) < (x.n : Int))) = false := hb32
      have qhb32 := of_decide_eq_false hb32
      refine zyb ?_
      refine zzo ?_
      refine zzc ?_
      refine zzc ?_
      have hlA : ∀ j, j < l.length → (Nt.fitB W (l.getD j 0) && Nt.fitB W (-l.getD j 0)) = true := fun j hj => hk j (by omega)
      refine zze ?_
      refine zzh 53 (.v (W.v)) ty24 zzd ?_
      refine zza 54 (.v y.v) ?_
      refine zzf 55 154 [W.v, y.v] ?_
      intro w49 u49 e49 d49
      have k52 := k_words21 (W := W) d49 hW (hy.ext (e11.trans (g13.ext.trans (e18.trans (g20.ext.trans (e31.trans e49)))))) hc (by omega)
      with_reducible refine zPm k52 ?_
      rintro _ u50 g51 rfl
      refine zza 56 (.v (.bool (!(Nt.fitsB W m)))) ?_
      refine zzb 78 [(0, .v x.v), (7, .adr 7 0), (56, .v (.bool (!(Nt.fitsB W m))))] [(7, ⟨24, W.cs⟩)] ?_
      refine zzt (b := !(Nt.fitsB W m)) (by kernel_rfl) (fun hb53 => ?_) (fun hb53 => ?_)
      ·replace hb53 : (!(Nt.fitsB W m)) = true := hb53
       have qhb53 := hb53
       simp only [Bool.not_eq_true'] at qhb53
       refine sq9 ?_
       refine zza 8 (.v (.int .i64 17)) ?_
       refine zzb 78 [(8, .v (.int .i64 17))] [] ?_
       refine zzn (zzv (ret0 [.int .i64 17] ⟨zzp, trivial⟩ fun u54 e55 => ?_))
       show Value.int _ _ = Value.int _ _
       unfold Nt.ckE
       rw [if_neg (not_not_intro hD), Nt.latE_17w hW (by omega) (by omega) qhb53]
      ·replace hb53 : (!(Nt.fitsB W m)) = false := hb53
       have qhb53 := hb53
       simp only [Bool.not_eq_false'] at qhb53
       have hmA : ∀ j, j < m.length → Nt.fitB W (m.getD j 0) = true := of_decide_eq_true qhb53
       refine zzr (zzo ?_)
       refine zzc ?_
       refine sq9 ?_
       refine zza 10 (.v (.int .i64 0)) ?_
       refine zzb 78 [(0, .v x.v), (7, .adr 7 0), (10, .v (.int .i64 0))] [(7, ⟨24, W.cs⟩)] ?_
       refine zzs ?_
       refine zym (I := fun m56 S' u' => ∃ (i : Nat), (m56 = x.n - i) ∧ (i ≤ x.n) ∧ (∀ j, j < i → Nt.lowB W (l.getD j 0) = true) ∧ (S' = St.of 78 [(0, .v (.slice x.a x.n x.c)), (7, .adr 7 0), (10, .v (.int .i64 (i : Int)))] [(7, ⟨24, [.int .i64 W.b, .int .i64 W.f, .int .i64 W.r, .int .i64 W.o]⟩)]) ∧ (Ext u50 u')) (fun m S u1 u2 e h => by obtain ⟨i, hm, p0, p1, hS, hE⟩ := h; exact ⟨i, hm, p0, p1, hS, hE.trans e⟩) _ (T := St.of 78 [(0, .v (.slice x.a x.n x.c)), (7, .adr 7 0), (10, .v (.int .i64 0))] [(7, ⟨24, [.int .i64 W.b, .int .i64 W.f, .int .i64 W.r, .int .i64 W.o]⟩)]) (by exact zzu _ _ _) ⟨0, rfl, Nat.zero_le _, fun j hj => absurd hj (Nat.not_lt_zero j), rfl, (Ext.refl _)⟩ ?_
       rintro m56 _ u56 ⟨i, hm56, hi, hs, rfl, e56⟩
       refine zzc ?_
       refine sq9 ?_
       refine zza 57 (.v (.int .i64 (i : Int))) ?_
       refine zza 58 (.v x.v) ?_
       refine zza 59 (.v (.int .i64 (x.n : Int))) ?_
       refine zza 60 (.v (.bool (decide ((i : Int) < (x.n : Int))))) ?_
       refine zzb 78 [(0, .v x.v), (7, .adr 7 0), (10, .v (.int .i64 (i : Int))), (60, .v (.bool (decide ((i : Int) < (x.n : Int)))))] [(7, ⟨24, W.cs⟩)] ?_
       refine zzt (b := decide ((i : Int) < (x.n : Int))) (by kernel_rfl) (fun hb57 => ?_) (fun hb57 => ?_)
       ·replace hb57 : (decide ((i : Int) < (x.n : Int))) = true := hb57
        have qhb57 := of_decide_eq_true hb57
        refine zzr (zzo ?_)
        refine zzc ?_
        refine zzs ?_
        refine zzc ?_
        have h7 := hlA i (by omega)
        rw [Bool.and_eq_true] at h7
        have h6 := Nt.fit_iff.1 h7.1
        refine zzy [0, 0, 3, 7, 0, 0, 48, 112, 240, 511, 0, 1024, 3072, 7168, 16383] [(0, []), (1, []), (2, []), (3, []), (4, []), (5, []), (6, []), (7, []), (8, []), (9, []), (10, []), (11, []), (12, []), (13, []), (14, [])] (by kernel_rfl) (by kernel_rfl) ?_
        refine zza 63 (.v x.v) ?_
        refine zza 64 (.v (.int .i64 (i : Int))) ?_
        have hl58 := ((hx.ext (e11.trans (g13.ext.trans (e18.trans (g20.ext.trans (e31.trans (e49.trans (g51.ext.trans e56))))))))).1
        obtain ⟨b58, o58, hA58, hc58⟩ := ints_at (hx.ext (e11.trans (g13.ext.trans (e18.trans (g20.ext.trans (e31.trans (e49.trans (g51.ext.trans e56)))))))) (i := i) (by omega)
        have hz58 := ints_bd hb (by omega) i
        refine zzz 65 (o58 + i * 1) (n := x.n) (off := o58) (sz := 1) (i := (i : Int)) (by omega) hA58 (by omega) (by omega) sl22 ?_
        refine zyk 66 (.int .i64 (l.getD i 0)) hc58 ty3 ?_
        refine zza 67 (.v x.v) ?_
        refine zza 68 (.v (.int .i64 (i : Int))) ?_
        have hl59 := ((hx.ext (e11.trans (g13.ext.trans (e18.trans (g20.ext.trans (e31.trans (e49.trans (g51.ext.trans e56))))))))).1
        obtain ⟨b59, o59, hA59, hc59⟩ := ints_at (hx.ext (e11.trans (g13.ext.trans (e18.trans (g20.ext.trans (e31.trans (e49.trans (g51.ext.trans e56)))))))) (i := i) (by omega)
        have hz59 := ints_bd hb (by omega) i
        refine zzz 69 (o59 + i * 1) (n := x.n) (off := o59) (sz := 1) (i := (i : Int)) (by omega) hA59 (by omega) (by omega) sl22 ?_
        refine zyk 70 (.int .i64 (l.getD i 0)) hc59 ty3 ?_
        refine zyp 71 (x := .v (.int .i64 (IntKind.i64.wrap (0 - (l.getD i 0))))) (.v (.int .i64 (-(l.getD i 0)))) (eqI (by rw [IntWalk.i64_in _ (by omega)]; omega)) ?_
        obtain ⟨mx60, hmx60, hml60⟩ : ∃ v, (if -(l.getD i 0) > (l.getD i 0) then -(l.getD i 0) else (l.getD i 0)) = v ∧ ((l.getD i 0) ≤ v ∧ -(l.getD i 0) ≤ v ∧ (v = (l.getD i 0) ∨ v = -(l.getD i 0))) := ⟨_, rfl, by split <;> omega⟩
        refine sy_maxN 72 (n := (l.getD i 0)) (m := -(l.getD i 0)) (v := mx60) hmx60 ?_
        refine zza 73 (.adr 7 1) ?_
        refine zzh 74 (.v (.int .i64 W.f)) ty3 zzk ?_
        refine sy_conv 75 (W.f) (fun w => by kernel_rfl) (IntWalk.u64_in _ (by omega)) ?_
        refine sy_shl 76 (k := .i64) (s := W.f) (Nt.p2i W.f) (by omega) (by show _ ≤ (64 : Int); omega) (shl_one (by omega) (by omega)) ?_
        refine zza 77 (.v (.bool (decide ((Nt.p2i W.f) ≤ mx60)))) ?_
        refine zzb 78 [(0, .v x.v), (7, .adr 7 0), (10, .v (.int .i64 (i : Int))), (77, .v (.bool (decide ((Nt.p2i W.f) ≤ mx60))))] [(7, ⟨24, W.cs⟩)] ?_
        refine zzt (b := decide ((Nt.p2i W.f) ≤ mx60)) (by kernel_rfl) (fun hb61 => ?_) (fun hb61 => ?_)
        ·replace hb61 : (decide ((Nt.p2i W.f) ≤ mx60)) = true := hb61
         have qhb61 := of_decide_eq_true hb61
         refine sq9 ?_
         refine zza 8 (.v (.int .i64 14)) ?_
         refine zzb 78 [(8, .v (.int .i64 14))] [] ?_
         refine zzn (zyt (zzv (zys (zyt (zzv (ret0 [.int .i64 14] ⟨zzp, trivial⟩ fun u62 e63 => ?_))))))
         show Value.int _ _ = Value.int _ _
         unfold Nt.ckE
         rw [if_neg (not_not_intro hD), Nt.latE_14 hW (by omega) (by omega) hmA hlA (i := i) (by omega) (by rw [Bool.eq_false_iff]; intro h9; have h8 := Nt.low_iff.1 h9; omega)]
        ·replace hb61 : (decide ((Nt.p2i W.f) ≤ mx60)) = false := hb61
         have qhb61 := of_decide_eq_false hb61
         refine zzr (zzo ?_)
         refine zze ?_
         refine zza 61 (.v (.int .i64 (i : Int))) ?_
         refine zyp 62 (x := .v (.int .i64 (IntKind.i64.wrap ((i : Int) + 1)))) (.v (.int .i64 ((i + 1 : Nat) : Int))) (eqI (by rw [IntWalk.i64_in _ (by omega)]; omega)) ?_
         refine zza 10 (.v (.int .i64 ((i + 1 : Nat) : Int))) ?_
         refine zzw ?_
         refine ⟨_, ?_, St.of 78 [(0, .v (.slice x.a x.n x.c)), (7, .adr 7 0), (10, .v (.int .i64 ((i + 1 : Nat) : Int)))] [(7, ⟨24, [.int .i64 W.b, .int .i64 W.f, .int .i64 W.r, .int .i64 W.o]⟩)], by exact zzu _ _ _, i + 1, rfl, by omega, (fun j hj => by by_cases e : j = i; (rw [e]; exact (Nt.low_iff.2 (by omega))); exact hs j (by omega)), rfl, e56⟩
         omega
       ·replace hb57 : (decide ((i : Int) < (x.n : Int))) = false := hb57
        have qhb57 := of_decide_eq_false hb57
        refine zyb ?_
        refine zzo ?_
        refine zzc ?_
        have hsA : ∀ j, j < l.length → Nt.lowB W (l.getD j 0) = true := fun j hj => hs j (by omega)
        refine zze ?_
        refine zza 8 (.v (.int .i64 0)) ?_
        refine zzb 78 [(8, .v (.int .i64 0))] [] ?_
        refine zzn (ret0 [.int .i64 0] ⟨zzp, trivial⟩ fun u64 e65 => ?_)
        show Value.int _ _ = Value.int _ _
        unfold Nt.ckE
        rw [if_neg (not_not_intro hD), Nt.latE_0 hW (by omega) (by omega) hmA hlA hsA]
end Go.Proofs.YtdmpfhhhlhoeiaaGreat

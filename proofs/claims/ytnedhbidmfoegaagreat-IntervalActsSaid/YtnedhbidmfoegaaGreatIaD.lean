/- Parts of the proof: contracts of functions, each walked once, and plain laws. -/
import Derived.Test.YtnedhbidmfoegaaGreatIaC
import Derived.Laws.MakeOwn
import Derived.Maps.AppendAt
namespace Go.Proofs.YtnedhbidmfoegaaGreat
open Go.RowKit
set_option linter.unusedVariables false
theorem k_ends {u w : World} {a1 a2 : RL} {x1 x2 : Rat} {K : Nat} (d : Dat u w) (ha1 : RatV u a1 x1 K) (ha2 : RatV u a2 x2 K) (hK : K ≤ 200000000) : Calls Tryz.prog 103 #[IV a1 a2] w (Post u w fun v u' => ∃ p q : RL, v = .tuple #[p.v, q.v] ∧ RatV u' p (Nt.lo x1 x2) K ∧ RatV u' q (Nt.hi x1 x2) K) := by
 refine zzk (args := [.agg #[.bool a1.s, .slice a1.m.a a1.m.n a1.m.c, .slice a1.d.a a1.d.n a1.d.c, .bool a2.s, .slice a2.m.a a2.m.n a2.m.c, .slice a2.d.a a2.d.n a2.d.c]]) Tryz.func103 rfl Tryz.ntmps103 (rs := [.cell 2 26, .cell 3 26]) Tryz.results103 (le_b rfl) (le_b rfl) d ?_
 refine sq9 ?_
 refine zzi 1 ⟨28, a1.cs ++ a2.cs⟩ ?_
 refine zzi 2 ⟨26, [.bool false, .slice none 0 0, .slice none 0 0]⟩ ?_
 refine zzi 3 ⟨26, [.bool false, .slice none 0 0, .slice none 0 0]⟩ ?_
 refine zzb 18 [(1, .adr 1 0), (2, .adr 2 0), (3, .adr 3 0)] [(1, ⟨28, a1.cs ++ a2.cs⟩), (2, ⟨26, [.bool false, .slice none 0 0, .slice none 0 0]⟩), (3, ⟨26, [.bool false, .slice none 0 0, .slice none 0 0]⟩)] ?_
 refine zzc ?_
 refine sq9 ?_
 refine zza 4 (.adr 1 0) ?_
 refine zzg 5 (.v (a1.v)) ty26 zzd ?_
 refine zza 6 (.adr 1 3) ?_
 refine zzg 7 (.v (a2.v)) ty26 zzd ?_
 refine zzf 8 114 [a1.v, a2.v] ?_
 intro w11 u11 e11 d11
 have k14 := k_ratCompare d11 (ha1.ext e11) (ha2.ext e11) (by omega) (by omega)
 with_reducible refine Post.mono k14 ?_
 rintro _ u12 g13 rfl
 refine zza 9 (.v (.bool (decide ((0 : Int) < (Nt.cmpQ x1 x2))))) ?_
 refine zzb 18 [(1, .adr 1 0), (2, .adr 2 0), (3, .adr 3 0), (9, .v (.bool (decide ((0 : Int) < (Nt.cmpQ x1 x2)))))] [(1, ⟨28, a1.cs ++ a2.cs⟩), (2, ⟨26, [.bool false, .slice none 0 0, .slice none 0 0]⟩), (3, ⟨26, [.bool false, .slice none 0 0, .slice none 0 0]⟩)] ?_
 refine zzs (b := decide ((0 : Int) < (Nt.cmpQ x1 x2))) (by kernel_rfl) (fun hb15 => ?_) (fun hb15 => ?_)
 ·replace hb15 : (decide ((0 : Int) < (Nt.cmpQ x1 x2))) = true := hb15
  have qhb15 := of_decide_eq_true hb15
  refine zzc ?_
  refine zzx [0, 1, 0, 4, 3, 31] [(0, []), (1, []), (2, []), (3, []), (4, [12]), (5, [])] (by kernel_rfl) (by kernel_rfl) ?_
  refine zza 10 (.adr 1 3) ?_
  refine zzg 11 (.v (a2.v)) ty26 zzd ?_
  refine zza 12 (.adr 1 0) ?_
  refine zzg 13 (.v (a1.v)) ty26 zzd ?_
  refine zzh ⟨26, a2.cs⟩ ty26 ?_
  refine zzh ⟨26, a1.cs⟩ ty26 ?_
  refine zzb 18 [(2, .adr 2 0), (3, .adr 3 0)] [(2, ⟨26, a2.cs⟩), (3, ⟨26, a1.cs⟩)] ?_
  refine zzm (zzu (ret0 [a2.v, a1.v] ⟨zzp ty26 zzd, zzp ty26 zzd, trivial⟩ fun u16 e17 => ?_))
  refine ⟨a2, a1, rfl, ?_, ?_⟩
  ·rw [(Nt.ends_gt hb15).1]; exact (ha2.ext (e11.trans (g13.ext.trans e17)))
  ·rw [(Nt.ends_gt hb15).2]; exact (ha1.ext (e11.trans (g13.ext.trans e17)))
 ·replace hb15 : (decide ((0 : Int) < (Nt.cmpQ x1 x2))) = false := hb15
  have qhb15 := of_decide_eq_false hb15
  refine zzq (zzn ?_)
  refine zzc ?_
  refine zzx [0, 1, 0, 4, 3, 31] [(0, []), (1, []), (2, []), (3, []), (4, [16]), (5, [])] (by kernel_rfl) (by kernel_rfl) ?_
  refine zza 14 (.adr 1 0) ?_
  refine zzg 15 (.v (a1.v)) ty26 zzd ?_
  refine zza 16 (.adr 1 3) ?_
  refine zzg 17 (.v (a2.v)) ty26 zzd ?_
  refine zzh ⟨26, a1.cs⟩ ty26 ?_
  refine zzh ⟨26, a2.cs⟩ ty26 ?_
  refine zzb 18 [(2, .adr 2 0), (3, .adr 3 0)] [(2, ⟨26, a1.cs⟩), (3, ⟨26, a2.cs⟩)] ?_
  refine zzm (ret0 [a1.v, a2.v] ⟨zzp ty26 zzd, zzp ty26 zzd, trivial⟩ fun u18 e19 => ?_)
  refine ⟨a1, a2, rfl, ?_, ?_⟩
  ·rw [(Nt.ends_le hb15).1]; exact (ha1.ext (e11.trans (g13.ext.trans e19)))
  ·rw [(Nt.ends_le hb15).2]; exact (ha2.ext (e11.trans (g13.ext.trans e19)))
theorem k_lesserV {u w : World} {a : RL} {x : Rat} {b : RL} {y : Rat} {K : Nat} (d : Dat u w) (ha : RatV u a x K) (hb : RatV u b y K) (hK : K ≤ 200000000) : Calls Tryz.prog 128 #[a.v, b.v] w (Post u w fun v u' => ∃ p : RL, v = p.v ∧ RatV u' p (Nt.lo x y) K) := by
 refine zzk (args := [a.v, b.v]) Tryz.func128 rfl Tryz.ntmps128 (rs := [.cell 4 26]) Tryz.results128 (le_b rfl) (le_b rfl) d ?_
 refine sq9 ?_
 refine zzi 2 ⟨26, a.cs⟩ ?_
 refine zzi 3 ⟨26, b.cs⟩ ?_
 refine zzi 4 ⟨26, [.bool false, .slice none 0 0, .slice none 0 0]⟩ ?_
 refine zzb 11 [(2, .adr 2 0), (3, .adr 3 0), (4, .adr 4 0)] [(2, ⟨26, a.cs⟩), (3, ⟨26, b.cs⟩), (4, ⟨26, [.bool false, .slice none 0 0, .slice none 0 0]⟩)] ?_
 refine zzc ?_
 refine sq9 ?_
 refine zzg 5 (.v (b.v)) ty26 zzd ?_
 refine zzg 6 (.v (a.v)) ty26 zzd ?_
 refine zzf 7 114 [b.v, a.v] ?_
 intro w11 u11 e11 d11
 have k14 := k_ratCompare d11 (hb.ext e11) (ha.ext e11) (by omega) (by omega)
 with_reducible refine Post.mono k14 ?_
 rintro _ u12 g13 rfl
 refine zza 8 (.v (.bool (decide ((Nt.cmpQ y x) < 0)))) ?_
 refine zzb 11 [(2, .adr 2 0), (3, .adr 3 0), (4, .adr 4 0), (8, .v (.bool (decide ((Nt.cmpQ y x) < 0))))] [(2, ⟨26, a.cs⟩), (3, ⟨26, b.cs⟩), (4, ⟨26, [.bool false, .slice none 0 0, .slice none 0 0]⟩)] ?_
 refine zzs (b := decide ((Nt.cmpQ y x) < 0)) (by kernel_rfl) (fun hb15 => ?_) (fun hb15 => ?_)
 ·replace hb15 : (decide ((Nt.cmpQ y x) < 0)) = true := hb15
  have qhb15 := of_decide_eq_true hb15
  refine sq9 ?_
  refine zzg 9 (.v (b.v)) ty26 zzd ?_
  refine zzh ⟨26, b.cs⟩ ty26 ?_
  refine zzb 11 [(4, .adr 4 0)] [(4, ⟨26, b.cs⟩)] ?_
  refine zzm (zzu (ret0 [b.v] ⟨zzp ty26 zzd, trivial⟩ fun u16 e17 => ?_))
  refine ⟨b, rfl, ?_⟩
  rw [Nt.lesser_lt hb15]
  exact (hb.ext (e11.trans (g13.ext.trans e17)))
 ·replace hb15 : (decide ((Nt.cmpQ y x) < 0)) = false := hb15
  have qhb15 := of_decide_eq_false hb15
  refine zzq (zzn ?_)
  refine sq9 ?_
  refine zzg 10 (.v (a.v)) ty26 zzd ?_
  refine zzh ⟨26, a.cs⟩ ty26 ?_
  refine zzb 11 [(4, .adr 4 0)] [(4, ⟨26, a.cs⟩)] ?_
  refine zzm (ret0 [a.v] ⟨zzp ty26 zzd, trivial⟩ fun u18 e19 => ?_)
  refine ⟨a, rfl, ?_⟩
  rw [Nt.lesser_ge hb15]
  exact (ha.ext (e11.trans (g13.ext.trans e19)))
theorem k_lesserN {u w : World} {a : RL} {x : Rat} {b : RL} {y : Rat} {K : Nat} (d : Dat u w) (ha : RatN u a x K) (hb : RatN u b y K) (hK : K ≤ 200000000) : Calls Tryz.prog 128 #[a.v, b.v] w (Post u w fun v u' => ∃ p : RL, v = p.v ∧ RatN u' p (Nt.lo x y) K) := by
 refine zzk (args := [a.v, b.v]) Tryz.func128 rfl Tryz.ntmps128 (rs := [.cell 4 26]) Tryz.results128 (le_b rfl) (le_b rfl) d ?_
 refine sq9 ?_
 refine zzi 2 ⟨26, a.cs⟩ ?_
 refine zzi 3 ⟨26, b.cs⟩ ?_
 refine zzi 4 ⟨26, [.bool false, .slice none 0 0, .slice none 0 0]⟩ ?_
 refine zzb 11 [(2, .adr 2 0), (3, .adr 3 0), (4, .adr 4 0)] [(2, ⟨26, a.cs⟩), (3, ⟨26, b.cs⟩), (4, ⟨26, [.bool false, .slice none 0 0, .slice none 0 0]⟩)] ?_
 refine zzc ?_
 refine sq9 ?_
 refine zzg 5 (.v (b.v)) ty26 zzd ?_
 refine zzg 6 (.v (a.v)) ty26 zzd ?_
 refine zzf 7 114 [b.v, a.v] ?_
 intro w11 u11 e11 d11
 have k14 := k_ratCompare d11 (hb.ext e11).raw (ha.ext e11).raw (by omega) (by omega)
 with_reducible refine Post.mono k14 ?_
 rintro _ u12 g13 rfl
 refine zza 8 (.v (.bool (decide ((Nt.cmpQ y x) < 0)))) ?_
 refine zzb 11 [(2, .adr 2 0), (3, .adr 3 0), (4, .adr 4 0), (8, .v (.bool (decide ((Nt.cmpQ y x) < 0))))] [(2, ⟨26, a.cs⟩), (3, ⟨26, b.cs⟩), (4, ⟨26, [.bool false, .slice none 0 0, .slice none 0 0]⟩)] ?_
 refine zzs (b := decide ((Nt.cmpQ y x) < 0)) (by kernel_rfl) (fun hb15 => ?_) (fun hb15 => ?_)
 ·replace hb15 : (decide ((Nt.cmpQ y x) < 0)) = true := hb15
  have qhb15 := of_decide_eq_true hb15
  refine sq9 ?_
  refine zzg 9 (.v (b.v)) ty26 zzd ?_
  refine zzh ⟨26, b.cs⟩ ty26 ?_
  refine zzb 11 [(4, .adr 4 0)] [(4, ⟨26, b.cs⟩)] ?_
  refine zzm (zzu (ret0 [b.v] ⟨zzp ty26 zzd, trivial⟩ fun u16 e17 => ?_))
  refine ⟨b, rfl, ?_⟩
  rw [Nt.lesser_lt hb15]
  exact (hb.ext (e11.trans (g13.ext.trans e17)))
 ·replace hb15 : (decide ((Nt.cmpQ y x) < 0)) = false := hb15
  have qhb15 := of_decide_eq_false hb15
  refine zzq (zzn ?_)
  refine sq9 ?_
  refine zzg 10 (.v (a.v)) ty26 zzd ?_
  refine zzh ⟨26, a.cs⟩ ty26 ?_
  refine zzb 11 [(4, .adr 4 0)] [(4, ⟨26, a.cs⟩)] ?_
  refine zzm (ret0 [a.v] ⟨zzp ty26 zzd, trivial⟩ fun u18 e19 => ?_)
  refine ⟨a, rfl, ?_⟩
  rw [Nt.lesser_ge hb15]
  exact (ha.ext (e11.trans (g13.ext.trans e19)))
theorem k_greaterV {u w : World} {a : RL} {x : Rat} {b : RL} {y : Rat} {K : Nat} (d : Dat u w) (ha : RatV u a x K) (hb : RatV u b y K) (hK : K ≤ 200000000) : Calls Tryz.prog 113 #[a.v, b.v] w (Post u w fun v u' => ∃ p : RL, v = p.v ∧ RatV u' p (Nt.hi x y) K) := by
 refine zzk (args := [a.v, b.v]) Tryz.func113 rfl Tryz.ntmps113 (rs := [.cell 4 26]) Tryz.results113 (le_b rfl) (le_b rfl) d ?_
 refine sq9 ?_
 refine zzi 2 ⟨26, a.cs⟩ ?_
 refine zzi 3 ⟨26, b.cs⟩ ?_
 refine zzi 4 ⟨26, [.bool false, .slice none 0 0, .slice none 0 0]⟩ ?_
 refine zzb 11 [(2, .adr 2 0), (3, .adr 3 0), (4, .adr 4 0)] [(2, ⟨26, a.cs⟩), (3, ⟨26, b.cs⟩), (4, ⟨26, [.bool false, .slice none 0 0, .slice none 0 0]⟩)] ?_
 refine zzc ?_
 refine sq9 ?_
 refine zzg 5 (.v (b.v)) ty26 zzd ?_
 refine zzg 6 (.v (a.v)) ty26 zzd ?_
 refine zzf 7 114 [b.v, a.v] ?_
 intro w11 u11 e11 d11
 have k14 := k_ratCompare d11 (hb.ext e11) (ha.ext e11) (by omega) (by omega)
 with_reducible refine Post.mono k14 ?_
 rintro _ u12 g13 rfl
 refine zza 8 (.v (.bool (decide ((0 : Int) < (Nt.cmpQ y x))))) ?_
 refine zzb 11 [(2, .adr 2 0), (3, .adr 3 0), (4, .adr 4 0), (8, .v (.bool (decide ((0 : Int) < (Nt.cmpQ y x)))))] [(2, ⟨26, a.cs⟩), (3, ⟨26, b.cs⟩), (4, ⟨26, [.bool false, .slice none 0 0, .slice none 0 0]⟩)] ?_
 refine zzs (b := decide ((0 : Int) < (Nt.cmpQ y x))) (by kernel_rfl) (fun hb15 => ?_) (fun hb15 => ?_)
 ·replace hb15 : (decide ((0 : Int) < (Nt.cmpQ y x))) = true := hb15
  have qhb15 := of_decide_eq_true hb15
  refine sq9 ?_
  refine zzg 9 (.v (b.v)) ty26 zzd ?_
  refine zzh ⟨26, b.cs⟩ ty26 ?_
  refine zzb 11 [(4, .adr 4 0)] [(4, ⟨26, b.cs⟩)] ?_
  refine zzm (zzu (ret0 [b.v] ⟨zzp ty26 zzd, trivial⟩ fun u16 e17 => ?_))
  refine ⟨b, rfl, ?_⟩
  rw [Nt.greater_gt hb15]
  exact (hb.ext (e11.trans (g13.ext.trans e17)))
 ·replace hb15 : (decide ((0 : Int) < (Nt.cmpQ y x))) = false := hb15
  have qhb15 := of_decide_eq_false hb15
  refine zzq (zzn ?_)
  refine sq9 ?_
  refine zzg 10 (.v (a.v)) ty26 zzd ?_
  refine zzh ⟨26, a.cs⟩ ty26 ?_
  refine zzb 11 [(4, .adr 4 0)] [(4, ⟨26, a.cs⟩)] ?_
  refine zzm (ret0 [a.v] ⟨zzp ty26 zzd, trivial⟩ fun u18 e19 => ?_)
  refine ⟨a, rfl, ?_⟩
  rw [Nt.greater_le hb15]
  exact (ha.ext (e11.trans (g13.ext.trans e19)))
theorem k_greaterN {u w : World} {a : RL} {x : Rat} {b : RL} {y : Rat} {K : Nat} (d : Dat u w) (ha : RatN u a x K) (hb : RatN u b y K) (hK : K ≤ 200000000) : Calls Tryz.prog 113 #[a.v, b.v] w (Post u w fun v u' => ∃ p : RL, v = p.v ∧ RatN u' p (Nt.hi x y) K) := by
 refine zzk (args := [a.v, b.v]) Tryz.func113 rfl Tryz.ntmps113 (rs := [.cell 4 26]) Tryz.results113 (le_b rfl) (le_b rfl) d ?_
 refine sq9 ?_
 refine zzi 2 ⟨26, a.cs⟩ ?_
 refine zzi 3 ⟨26, b.cs⟩ ?_
 refine zzi 4 ⟨26, [.bool false, .slice none 0 0, .slice none 0 0]⟩ ?_
 refine zzb 11 [(2, .adr 2 0), (3, .adr 3 0), (4, .adr 4 0)] [(2, ⟨26, a.cs⟩), (3, ⟨26, b.cs⟩), (4, ⟨26, [.bool false, .slice none 0 0, .slice none 0 0]⟩)] ?_
 refine zzc ?_
 refine sq9 ?_
 refine zzg 5 (.v (b.v)) ty26 zzd ?_
 refine zzg 6 (.v (a.v)) ty26 zzd ?_
 refine zzf 7 114 [b.v, a.v] ?_
 intro w11 u11 e11 d11
 have k14 := k_ratCompare d11 (hb.ext e11).raw (ha.ext e11).raw (by omega) (by omega)
 with_reducible refine Post.mono k14 ?_
 rintro _ u12 g13 rfl
 refine zza 8 (.v (.bool (decide ((0 : Int) < (Nt.cmpQ y x))))) ?_
 refine zzb 11 [(2, .adr 2 0), (3, .adr 3 0), (4, .adr 4 0), (8, .v (.bool (decide ((0 : Int) < (Nt.cmpQ y x)))))] [(2, ⟨26, a.cs⟩), (3, ⟨26, b.cs⟩), (4, ⟨26, [.bool false, .slice none 0 0, .slice none 0 0]⟩)] ?_
 refine zzs (b := decide ((0 : Int) < (Nt.cmpQ y x))) (by kernel_rfl) (fun hb15 => ?_) (fun hb15 => ?_)
 ·replace hb15 : (decide ((0 : Int) < (Nt.cmpQ y x))) = true := hb15
  have qhb15 := of_decide_eq_true hb15
  refine sq9 ?_
  refine zzg 9 (.v (b.v)) ty26 zzd ?_
  refine zzh ⟨26, b.cs⟩ ty26 ?_
  refine zzb 11 [(4, .adr 4 0)] [(4, ⟨26, b.cs⟩)] ?_
  refine zzm (zzu (ret0 [b.v] ⟨zzp ty26 zzd, trivial⟩ fun u16 e17 => ?_))
  refine ⟨b, rfl, ?_⟩
  rw [Nt.greater_gt hb15]
  exact (hb.ext (e11.trans (g13.ext.trans e17)))
 ·replace hb15 : (decide ((0 : Int) < (Nt.cmpQ y x))) = false := hb15
  have qhb15 := of_decide_eq_false hb15
  refine zzq (zzn ?_)
  refine sq9 ?_
  refine zzg 10 (.v (a.v)) ty26 zzd ?_
  refine zzh ⟨26, a.cs⟩ ty26 ?_
  refine zzb 11 [(4, .adr 4 0)] [(4, ⟨26, a.cs⟩)] ?_
  refine zzm (ret0 [a.v] ⟨zzp ty26 zzd, trivial⟩ fun u18 e19 => ?_)
  refine ⟨a, rfl, ?_⟩
  rw [Nt.greater_le hb15]
  exact (ha.ext (e11.trans (g13.ext.trans e19)))
theorem k_own {u w : World} {a : RL} {x : Rat} {K : Nat} (d : Dat u w) (ha : RatN u a x K) (hK : K ≤ 200000000) : Calls Tryz.prog 151 #[a.v] w (Post u w fun v u' => ∃ p : RL, v = p.v ∧ RatN u' p x K) := by
 refine zzk (args := [a.v]) Tryz.func151 rfl Tryz.ntmps151 (rs := [.cell 2 26]) Tryz.results151 (le_b rfl) (le_b rfl) d ?_
 refine sq9 ?_
 refine zzi 1 ⟨26, a.cs⟩ ?_
 refine zzi 2 ⟨26, [.bool false, .slice none 0 0, .slice none 0 0]⟩ ?_
 refine zzb 15 [(1, .adr 1 0), (2, .adr 2 0)] [(1, ⟨26, a.cs⟩), (2, ⟨26, [.bool false, .slice none 0 0, .slice none 0 0]⟩)] ?_
 refine zzc ?_
 refine zzx [0, 1, 3, 0, 8, 24, 56, 127, 0, 256, 888, 2047, 4095] [(0, []), (1, []), (2, []), (3, []), (4, []), (5, []), (8, []), (9, []), (6, []), (7, []), (10, []), (11, []), (12, [])] (by kernel_rfl) (by kernel_rfl) ?_
 refine zza 3 (.adr 1 0) ?_
 refine zza 4 (.adr 1 0) ?_
 refine zzg 5 (.v (.bool a.s)) ty4 zzj ?_
 refine zza 6 (.adr 1 0) ?_
 refine zza 7 (.adr 1 1) ?_
 refine zzg 8 (.v a.m.v) ty22 zzj ?_
 refine zza 11 (.adr 1 2) ?_
 refine zzg 12 (.v a.d.v) ty22 zzj ?_
 refine zzf 9 184 [a.m.v] ?_
 intro w11 u11 e11 d11
 have k16 := k_cloneN d11 ((int_mag (RatN.num ha)).ext e11) (by omega)
 with_reducible refine Post.mono k16 ?_
 rintro _ u14 g15 ⟨x12, rfl, h13⟩
 refine zza 10 (.v (.agg #[.bool a.s, x12.v])) ?_
 refine zzf 13 184 [a.d.v] ?_
 intro w17 u17 e17 d17
 have k22 := k_cloneN d17 ((RatN.den ha).ext (e11.trans (g15.ext.trans e17))) (by omega)
 with_reducible refine Post.mono k22 ?_
 rintro _ u20 g21 ⟨x18, rfl, h19⟩
 refine zza 14 (.v (.agg #[.bool a.s, x12.v, x18.v])) ?_
 refine zzh ⟨26, [.bool a.s, x12.v, x18.v]⟩ ty26 ?_
 refine zzb 15 [(2, .adr 2 0)] [(2, ⟨26, [.bool a.s, x12.v, x18.v]⟩)] ?_
 refine zzm (ret0 [.agg #[.bool a.s, .slice x12.a x12.n x12.c, .slice x18.a x18.n x18.c]] ⟨zzp ty26 zzd, trivial⟩ fun u23 e24 => ?_)
 exact ⟨(⟨a.s, x12, x18⟩ : RL), rfl, own_rat (r := a) ha (h13.ext (e17.trans (g21.ext.trans e24))) (h19.ext e24)⟩
set_option maxHeartbeats 1000000 in
theorem k_around {u w : World} {a1 a2 a3 a4 : RL} {x1 x2 x3 x4 : Rat} {K : Nat} (d : Dat u w) (ha1 : RatN u a1 x1 K) (ha2 : RatN u a2 x2 K) (ha3 : RatN u a3 x3 K) (ha4 : RatN u a4 x4 K) (hK : K ≤ 200000000) : Calls Tryz.prog 100 #[.agg #[.bool a1.s, .slice a1.m.a a1.m.n a1.m.c, .slice a1.d.a a1.d.n a1.d.c, .bool a2.s, .slice a2.m.a a2.m.n a2.m.c, .slice a2.d.a a2.d.n a2.d.c, .bool a3.s, .slice a3.m.a a3.m.n a3.m.c, .slice a3.d.a a3.d.n a3.d.c, .bool a4.s, .slice a4.m.a a4.m.n a4.m.c, .slice a4.d.a a4.d.n a4.d.c]] w (Post u w fun v u' => ∃ p q : RL, v = IV p q ∧ RatN u' p (Nt.lo4 x1 x2 x3 x4) K ∧ RatN u' q (Nt.hi4 x1 x2 x3 x4) K) := by
 refine zzk (args := [.agg #[.bool a1.s, .slice a1.m.a a1.m.n a1.m.c, .slice a1.d.a a1.d.n a1.d.c, .bool a2.s, .slice a2.m.a a2.m.n a2.m.c, .slice a2.d.a a2.d.n a2.d.c, .bool a3.s, .slice a3.m.a a3.m.n a3.m.c, .slice a3.d.a a3.d.n a3.d.c, .bool a4.s, .slice a4.m.a a4.m.n a4.m.c, .slice a4.d.a a4.d.n a4.d.c]]) Tryz.func100 rfl Tryz.ntmps100 (rs := [.cell 2 28]) Tryz.results100 (le_b rfl) (le_b rfl) d ?_
 refine sq9 ?_
 refine zzi 1 ⟨81, a1.cs ++ a2.cs ++ a3.cs ++ a4.cs⟩ ?_
 refine zzi 2 ⟨28, [.bool false, .slice none 0 0, .slice none 0 0, .bool false, .slice none 0 0, .slice none 0 0]⟩ ?_
 refine zzb 29 [(1, .adr 1 0), (2, .adr 2 0)] [(1, ⟨81, a1.cs ++ a2.cs ++ a3.cs ++ a4.cs⟩), (2, ⟨28, [.bool false, .slice none 0 0, .slice none 0 0, .bool false, .slice none 0 0, .slice none 0 0]⟩)] ?_
 refine zzc ?_
 refine zzx [0, 1, 0, 4, 0, 0, 51, 127] [(0, []), (1, []), (2, []), (3, []), (4, []), (5, []), (6, [9]), (7, [])] (by kernel_rfl) (by kernel_rfl) ?_
 refine zza 7 (.adr 1 0) ?_
 refine zzg 8 (.v (a1.v)) ty26 zzd ?_
 refine zza 9 (.adr 1 0) ?_
 refine zzg 10 (.v (a1.v)) ty26 zzd ?_
 refine zzi 3 ⟨26, [.bool false, .slice none 0 0, .slice none 0 0]⟩ ?_
 refine zzi 4 ⟨26, [.bool false, .slice none 0 0, .slice none 0 0]⟩ ?_
 refine zzh ⟨26, a1.cs⟩ ty26 ?_
 refine zzh ⟨26, a1.cs⟩ ty26 ?_
 refine zzb 29 [(1, .adr 1 0), (2, .adr 2 0), (3, .adr 3 0), (4, .adr 4 0)] [(1, ⟨81, a1.cs ++ a2.cs ++ a3.cs ++ a4.cs⟩), (2, ⟨28, [.bool false, .slice none 0 0, .slice none 0 0, .bool false, .slice none 0 0, .slice none 0 0]⟩), (3, ⟨26, a1.cs⟩), (4, ⟨26, a1.cs⟩)] ?_
 refine zzc ?_
 refine sq9 ?_
 refine zza 11 (.slc 1 3 3 3) ?_
 refine zza 12 (.v (.int .i64 3)) ?_
 refine zza 13 (.v (.int .i64 0)) ?_
 refine zzb 29 [(2, .adr 2 0), (3, .adr 3 0), (4, .adr 4 0), (11, .slc 1 3 3 3), (12, .v (.int .i64 3)), (13, .v (.int .i64 0))] [(1, ⟨81, a1.cs ++ a2.cs ++ a3.cs ++ a4.cs⟩), (2, ⟨28, [.bool false, .slice none 0 0, .slice none 0 0, .bool false, .slice none 0 0, .slice none 0 0]⟩), (3, ⟨26, a1.cs⟩), (4, ⟨26, a1.cs⟩)] ?_
 refine zzr ?_
 refine sw_rounds 3 ?_
 refine sq9 ?_
 refine zza 14 (.v (.bool true)) ?_
 refine zzb 29 [(2, .adr 2 0), (3, .adr 3 0), (4, .adr 4 0), (11, .slc 1 3 3 3), (12, .v (.int .i64 3)), (13, .v (.int .i64 0)), (14, .v (.bool true))] [(1, ⟨81, a1.cs ++ a2.cs ++ a3.cs ++ a4.cs⟩), (2, ⟨28, [.bool false, .slice none 0 0, .slice none 0 0, .bool false, .slice none 0 0, .slice none 0 0]⟩), (3, ⟨26, a1.cs⟩), (4, ⟨26, a1.cs⟩)] ?_
 refine zzc ?_
 refine zym (by kernel_rfl) ?_
 refine zzq (zzn ?_)
 refine zzc ?_
 refine zzr ?_
 refine sq9 ?_
 refine zza 15 (.adr 1 3) ?_
 refine zzg 16 (.v (a2.v)) ty26 zzd ?_
 refine zzi 6 ⟨26, [.bool false, .slice none 0 0, .slice none 0 0]⟩ ?_
 refine zzh ⟨26, a2.cs⟩ ty26 ?_
 refine zzb 29 [(2, .adr 2 0), (3, .adr 3 0), (4, .adr 4 0), (6, .adr 6 0), (11, .slc 1 3 3 3), (12, .v (.int .i64 3)), (13, .v (.int .i64 0))] [(1, ⟨81, a1.cs ++ a2.cs ++ a3.cs ++ a4.cs⟩), (2, ⟨28, [.bool false, .slice none 0 0, .slice none 0 0, .bool false, .slice none 0 0, .slice none 0 0]⟩), (3, ⟨26, a1.cs⟩), (4, ⟨26, a1.cs⟩), (6, ⟨26, a2.cs⟩)] ?_
 refine zzx [0, 0, 3, 0, 0, 31, 63, 127] [(0, []), (1, []), (3, []), (4, []), (2, []), (5, []), (6, []), (7, [])] (by kernel_rfl) (by kernel_rfl) ?_
 refine zzg 17 (.v (a1.v)) ty26 zzd ?_
 refine zzg 18 (.v (a2.v)) ty26 zzd ?_
 refine zzg 20 (.v (a1.v)) ty26 zzd ?_
 refine zzg 21 (.v (a2.v)) ty26 zzd ?_
 refine zzf 19 128 [a1.v, a2.v] ?_
 intro w11 u11 e11 d11
 have k16 := k_lesserN d11 (ha1.ext e11) (ha2.ext e11) (by omega)
 with_reducible refine Post.mono k16 ?_
 rintro _ u14 g15 ⟨r12, rfl, h13⟩
 refine zzf 22 113 [a1.v, a2.v] ?_
 intro w17 u17 e17 d17
 have k22 := k_greaterN d17 (ha1.ext (e11.trans (g15.ext.trans e17))) (ha2.ext (e11.trans (g15.ext.trans e17))) (by omega)
 with_reducible refine Post.mono k22 ?_
 rintro _ u20 g21 ⟨r18, rfl, h19⟩
 refine zzh ⟨26, r12.cs⟩ ty26 ?_
 refine zzh ⟨26, r18.cs⟩ ty26 ?_
 refine zzv ?_
 refine zzn ?_
 refine zze ?_
 refine zza 23 (.v (.int .i64 1)) ?_
 refine zza 13 (.v (.int .i64 1)) ?_
 refine zzv ?_
 refine rn_next ?_
 refine sw_weak (T := St.of 29 [(2, .adr 2 0), (3, .adr 3 0), (4, .adr 4 0), (11, .slc 1 3 3 3), (12, .v (.int .i64 3)), (13, .v (.int .i64 1))] [(1, ⟨81, a1.cs ++ a2.cs ++ a3.cs ++ a4.cs⟩), (2, ⟨28, [.bool false, .slice none 0 0, .slice none 0 0, .bool false, .slice none 0 0, .slice none 0 0]⟩), (3, ⟨26, r12.cs⟩), (4, ⟨26, r18.cs⟩)]) (by exact zzt _ _ _) ?_
 refine sq9 ?_
 refine zza 14 (.v (.bool true)) ?_
 refine zzb 29 [(2, .adr 2 0), (3, .adr 3 0), (4, .adr 4 0), (11, .slc 1 3 3 3), (12, .v (.int .i64 3)), (13, .v (.int .i64 1)), (14, .v (.bool true))] [(1, ⟨81, a1.cs ++ a2.cs ++ a3.cs ++ a4.cs⟩), (2, ⟨28, [.bool false, .slice none 0 0, .slice none 0 0, .bool false, .slice none 0 0, .slice none 0 0]⟩), (3, ⟨26, r12.cs⟩), (4, ⟨26, r18.cs⟩)] ?_
 refine zzc ?_
 refine zym (by kernel_rfl) ?_
 refine zzq (zzn ?_)
 refine zzc ?_
 refine zzr ?_
 refine sq9 ?_
 refine zza 15 (.adr 1 6) ?_
 refine zzg 16 (.v (a3.v)) ty26 zzd ?_
 refine zzi 6 ⟨26, [.bool false, .slice none 0 0, .slice none 0 0]⟩ ?_
 refine zzh ⟨26, a3.cs⟩ ty26 ?_
 refine zzb 29 [(2, .adr 2 0), (3, .adr 3 0), (4, .adr 4 0), (6, .adr 6 0), (11, .slc 1 3 3 3), (12, .v (.int .i64 3)), (13, .v (.int .i64 1))] [(1, ⟨81, a1.cs ++ a2.cs ++ a3.cs ++ a4.cs⟩), (2, ⟨28, [.bool false, .slice none 0 0, .slice none 0 0, .bool false, .slice none 0 0, .slice none 0 0]⟩), (3, ⟨26, r12.cs⟩), (4, ⟨26, r18.cs⟩), (6, ⟨26, a3.cs⟩)] ?_
 refine zzx [0, 0, 3, 0, 0, 31, 63, 127] [(0, []), (1, []), (3, []), (4, []), (2, []), (5, []), (6, []), (7, [])] (by kernel_rfl) (by kernel_rfl) ?_
 refine zzg 17 (.v (r12.v)) ty26 zzd ?_
 refine zzg 18 (.v (a3.v)) ty26 zzd ?_
 refine zzg 20 (.v (r18.v)) ty26 zzd ?_
 refine zzg 21 (.v (a3.v)) ty26 zzd ?_
 refine zzf 19 128 [r12.v, a3.v] ?_
 intro w23 u23 e23 d23
 have k28 := k_lesserN d23 (h13.ext (e17.trans (g21.ext.trans e23))) (ha3.ext (e11.trans (g15.ext.trans (e17.trans (g21.ext.trans e23))))) (by omega)
 with_reducible refine Post.mono k28 ?_
 rintro _ u26 g27 ⟨r24, rfl, h25⟩
 refine zzf 22 113 [r18.v, a3.v] ?_
 intro w29 u29 e29 d29
 have k34 := k_greaterN d29 (h19.ext (e23.trans (g27.ext.trans e29))) (ha3.ext (e11.trans (g15.ext.trans (e17.trans (g21.ext.trans (e23.trans (g27.ext.trans e29))))))) (by omega)
 with_reducible refine Post.mono k34 ?_
 rintro _ u32 g33 ⟨r30, rfl, h31⟩
 refine zzh ⟨26, r24.cs⟩ ty26 ?_
 refine zzh ⟨26, r30.cs⟩ ty26 ?_
 refine zzv ?_
 refine zzn ?_
 refine zze ?_
 refine zza 23 (.v (.int .i64 2)) ?_
 refine zza 13 (.v (.int .i64 2)) ?_
 refine zzv ?_
 refine rn_next ?_
 refine sw_weak (T := St.of 29 [(2, .adr 2 0), (3, .adr 3 0), (4, .adr 4 0), (11, .slc 1 3 3 3), (12, .v (.int .i64 3)), (13, .v (.int .i64 2))] [(1, ⟨81, a1.cs ++ a2.cs ++ a3.cs ++ a4.cs⟩), (2, ⟨28, [.bool false, .slice none 0 0, .slice none 0 0, .bool false, .slice none 0 0, .slice none 0 0]⟩), (3, ⟨26, r24.cs⟩), (4, ⟨26, r30.cs⟩)]) (by exact zzt _ _ _) ?_
 refine sq9 ?_
 refine zza 14 (.v (.bool true)) ?_
 refine zzb 29 [(2, .adr 2 0), (3, .adr 3 0), (4, .adr 4 0), (11, .slc 1 3 3 3), (12, .v (.int .i64 3)), (13, .v (.int .i64 2)), (14, .v (.bool true))] [(1, ⟨81, a1.cs ++ a2.cs ++ a3.cs ++ a4.cs⟩), (2, ⟨28, [.bool false, .slice none 0 0, .slice none 0 0, .bool false, .slice none 0 0, .slice none 0 0]⟩), (3, ⟨26, r24.cs⟩), (4, ⟨26, r30.cs⟩)] ?_
 refine zzc ?_
 refine zym (by kernel_rfl) ?_
 refine zzq (zzn ?_)
 refine zzc ?_
 refine zzr ?_
 refine sq9 ?_
 refine zza 15 (.adr 1 9) ?_
 refine zzg 16 (.v (a4.v)) ty26 zzd ?_
 refine zzi 6 ⟨26, [.bool false, .slice none 0 0, .slice none 0 0]⟩ ?_
 refine zzh ⟨26, a4.cs⟩ ty26 ?_
 refine zzb 29 [(2, .adr 2 0), (3, .adr 3 0), (4, .adr 4 0), (6, .adr 6 0), (11, .slc 1 3 3 3), (12, .v (.int .i64 3)), (13, .v (.int .i64 2))] [(1, ⟨81, a1.cs ++ a2.cs ++ a3.cs ++ a4.cs⟩), (2, ⟨28, [.bool false, .slice none 0 0, .slice none 0 0, .bool false, .slice none 0 0, .slice none 0 0]⟩), (3, ⟨26, r24.cs⟩), (4, ⟨26, r30.cs⟩), (6, ⟨26, a4.cs⟩)] ?_
 refine zzx [0, 0, 3, 0, 0, 31, 63, 127] [(0, []), (1, []), (3, []), (4, []), (2, []), (5, []), (6, []), (7, [])] (by kernel_rfl) (by kernel_rfl) ?_
 refine zzg 17 (.v (r24.v)) ty26 zzd ?_
 refine zzg 18 (.v (a4.v)) ty26 zzd ?_
 refine zzg 20 (.v (r30.v)) ty26 zzd ?_
 refine zzg 21 (.v (a4.v)) ty26 zzd ?_
 refine zzf 19 128 [r24.v, a4.v] ?_
 intro w35 u35 e35 d35
 have k40 := k_lesserN d35 (h25.ext (e29.trans (g33.ext.trans e35))) (ha4.ext (e11.trans (g15.ext.trans (e17.trans (g21.ext.trans (e23.trans (g27.ext.trans (e29.trans (g33.ext.trans e35))))))))) (by omega)
 with_reducible refine Post.mono k40 ?_
 rintro _ u38 g39 ⟨r36, rfl, h37⟩
 refine zzf 22 113 [r30.v, a4.v] ?_
 intro w41 u41 e41 d41
 have k46 := k_greaterN d41 (h31.ext (e35.trans (g39.ext.trans e41))) (ha4.ext (e11.trans (g15.ext.trans (e17.trans (g21.ext.trans (e23.trans (g27.ext.trans (e29.trans (g33.ext.trans (e35.trans (g39.ext.trans e41))))))))))) (by omega)
 with_reducible refine Post.mono k46 ?_
 rintro _ u44 g45 ⟨r42, rfl, h43⟩
 refine zzh ⟨26, r36.cs⟩ ty26 ?_
 refine zzh ⟨26, r42.cs⟩ ty26 ?_
 refine zzv ?_
 refine zzn ?_
 refine zze ?_
 refine zza 23 (.v (.int .i64 3)) ?_
 refine zza 13 (.v (.int .i64 3)) ?_
 refine zzv ?_
 refine rn_next ?_
 refine sw_weak (T := St.of 29 [(2, .adr 2 0), (3, .adr 3 0), (4, .adr 4 0), (11, .slc 1 3 3 3), (12, .v (.int .i64 3)), (13, .v (.int .i64 3))] [(1, ⟨81, a1.cs ++ a2.cs ++ a3.cs ++ a4.cs⟩), (2, ⟨28, [.bool false, .slice none 0 0, .slice none 0 0, .bool false, .slice none 0 0, .slice none 0 0]⟩), (3, ⟨26, r36.cs⟩), (4, ⟨26, r42.cs⟩)]) (by exact zzt _ _ _) ?_
 refine sq9 ?_
 refine zza 14 (.v (.bool false)) ?_
 refine zzb 29 [(2, .adr 2 0), (3, .adr 3 0), (4, .adr 4 0), (11, .slc 1 3 3 3), (12, .v (.int .i64 3)), (13, .v (.int .i64 3)), (14, .v (.bool false))] [(1, ⟨81, a1.cs ++ a2.cs ++ a3.cs ++ a4.cs⟩), (2, ⟨28, [.bool false, .slice none 0 0, .slice none 0 0, .bool false, .slice none 0 0, .slice none 0 0]⟩), (3, ⟨26, r36.cs⟩), (4, ⟨26, r42.cs⟩)] ?_
 refine zzc ?_
 refine zyn (by kernel_rfl) ?_
 refine zya ?_
 refine zzn ?_
 refine zzc ?_
 refine zzx [0, 1, 0, 7, 15, 31] [(0, []), (2, []), (1, []), (3, []), (4, []), (5, [])] (by kernel_rfl) (by kernel_rfl) ?_
 refine zzg 24 (.v (r36.v)) ty26 zzd ?_
 refine zzg 26 (.v (r42.v)) ty26 zzd ?_
 refine zzf 25 151 [r36.v] ?_
 intro w47 u47 e47 d47
 have k52 := k_own d47 (h37.ext (e41.trans (g45.ext.trans e47))) (by omega)
 with_reducible refine Post.mono k52 ?_
 rintro _ u50 g51 ⟨r48, rfl, h49⟩
 refine zzf 27 151 [r42.v] ?_
 intro w53 u53 e53 d53
 have k58 := k_own d53 (h43.ext (e47.trans (g51.ext.trans e53))) (by omega)
 with_reducible refine Post.mono k58 ?_
 rintro _ u56 g57 ⟨r54, rfl, h55⟩
 refine zza 28 (.v (.agg #[.bool r48.s, r48.m.v, r48.d.v, .bool r54.s, r54.m.v, r54.d.v])) ?_
 refine zzh ⟨28, r48.cs ++ r54.cs⟩ ty28 ?_
 refine zzb 29 [(2, .adr 2 0)] [(2, ⟨28, r48.cs ++ r54.cs⟩)] ?_
 refine zzm (ret0 [.agg #[.bool r48.s, .slice r48.m.a r48.m.n r48.m.c, .slice r48.d.a r48.d.n r48.d.c, .bool r54.s, .slice r54.m.a r54.m.n r54.m.c, .slice r54.d.a r54.d.n r54.d.c]] ⟨zzp ty28 zzd, trivial⟩ fun u59 e60 => ?_)
 refine ⟨r48, r54, rfl, RatN.more (K := K) ?_ (by omega), RatN.more (K := K) ?_ (by omega)⟩
 ·exact (h49.ext (e53.trans (g57.ext.trans e60)))
 ·exact (h55.ext e60)
theorem k_ivMake {u w : World} {a : RL} {x : Rat} {b : RL} {y : Rat} {K : Nat} (d : Dat u w) (ha : RatV u a x K) (hb : RatV u b y K) (hK : K ≤ 100000000) : Calls Tryz.prog 70 #[a.v, b.v] w (Post u w fun v u' => ∃ p q : RL, v = IV p q ∧ RatN u' p (Nt.lo x y) K ∧ RatN u' q (Nt.hi x y) K) := by
 refine zzk (args := [a.v, b.v]) Tryz.func70 rfl Tryz.ntmps70 (rs := [.cell 4 28]) Tryz.results70 (le_b rfl) (le_b rfl) d ?_
 refine sq9 ?_
 refine zzi 2 ⟨26, a.cs⟩ ?_
 refine zzi 3 ⟨26, b.cs⟩ ?_
 refine zzi 4 ⟨28, [.bool false, .slice none 0 0, .slice none 0 0, .bool false, .slice none 0 0, .slice none 0 0]⟩ ?_
 refine zzb 19 [(2, .adr 2 0), (3, .adr 3 0), (4, .adr 4 0)] [(2, ⟨26, a.cs⟩), (3, ⟨26, b.cs⟩), (4, ⟨28, [.bool false, .slice none 0 0, .slice none 0 0, .bool false, .slice none 0 0, .slice none 0 0]⟩)] ?_
 refine sq9 ?_
 refine zzg 8 (.v (a.v)) ty26 zzd ?_
 refine zzg 9 (.v (b.v)) ty26 zzd ?_
 refine zza 10 (.v (.agg #[.bool a.s, a.m.v, a.d.v, .bool b.s, b.m.v, b.d.v])) ?_
 refine zzf 11 103 [.agg #[.bool a.s, a.m.v, a.d.v, .bool b.s, b.m.v, b.d.v]] ?_
 intro w11 u11 e11 d11
 have k18 := k_ends d11 (ha.ext e11) (hb.ext e11) (by omega)
 with_reducible refine Post.mono k18 ?_
 rintro _ u16 g17 ⟨r12, r14, rfl, h13, h15⟩
 refine zza 7 (.v (.tuple #[r12.v, r14.v])) ?_
 refine zza 12 (.v (r12.v)) ?_
 refine zza 13 (.v (r14.v)) ?_
 refine zzi 5 ⟨26, [.bool false, .slice none 0 0, .slice none 0 0]⟩ ?_
 refine zzi 6 ⟨26, [.bool false, .slice none 0 0, .slice none 0 0]⟩ ?_
 refine zzh ⟨26, r12.cs⟩ ty26 ?_
 refine zzh ⟨26, r14.cs⟩ ty26 ?_
 refine zzb 19 [(4, .adr 4 0), (5, .adr 5 0), (6, .adr 6 0)] [(4, ⟨28, [.bool false, .slice none 0 0, .slice none 0 0, .bool false, .slice none 0 0, .slice none 0 0]⟩), (5, ⟨26, r12.cs⟩), (6, ⟨26, r14.cs⟩)] ?_
 refine zzc ?_
 refine zzx [0, 1, 0, 7, 15, 31] [(0, []), (2, []), (1, []), (3, []), (4, []), (5, [])] (by kernel_rfl) (by kernel_rfl) ?_
 refine zzg 14 (.v (r12.v)) ty26 zzd ?_
 refine zzg 16 (.v (r14.v)) ty26 zzd ?_
 refine zzf 15 126 [r12.v] ?_
 intro w19 u19 e19 d19
 have k24 := k_ratTrim d19 (h13.ext e19) (by omega)
 with_reducible refine Post.mono k24 ?_
 rintro _ u22 g23 ⟨r20, rfl, h21⟩
 refine zzf 17 126 [r14.v] ?_
 intro w25 u25 e25 d25
 have k30 := k_ratTrim d25 (h15.ext (e19.trans (g23.ext.trans e25))) (by omega)
 with_reducible refine Post.mono k30 ?_
 rintro _ u28 g29 ⟨r26, rfl, h27⟩
 refine zza 18 (.v (.agg #[.bool r20.s, r20.m.v, r20.d.v, .bool r26.s, r26.m.v, r26.d.v])) ?_
 refine zzh ⟨28, r20.cs ++ r26.cs⟩ ty28 ?_
 refine zzb 19 [(4, .adr 4 0)] [(4, ⟨28, r20.cs ++ r26.cs⟩)] ?_
 refine zzm (ret0 [.agg #[.bool r20.s, .slice r20.m.a r20.m.n r20.m.c, .slice r20.d.a r20.d.n r20.d.c, .bool r26.s, .slice r26.m.a r26.m.n r26.m.c, .slice r26.d.a r26.d.n r26.d.c]] ⟨zzp ty28 zzd, trivial⟩ fun u31 e32 => ?_)
 refine ⟨r20, r26, rfl, RatN.more (K := K) ?_ (by omega), RatN.more (K := K) ?_ (by omega)⟩
 ·exact (h21.ext (e25.trans (g29.ext.trans e32)))
 ·exact (h27.ext e32)
theorem k_ivTrim {u w : World} {a1 a2 : RL} {x1 x2 : Rat} {K : Nat} (d : Dat u w) (ha1 : RatV u a1 x1 K) (ha2 : RatV u a2 x2 K) (hK : K ≤ 100000000) : Calls Tryz.prog 68 #[IV a1 a2] w (Post u w fun v u' => ∃ p q : RL, v = IV p q ∧ RatN u' p (Nt.lo x1 x2) K ∧ RatN u' q (Nt.hi x1 x2) K) := by
 refine zzk (args := [.agg #[.bool a1.s, .slice a1.m.a a1.m.n a1.m.c, .slice a1.d.a a1.d.n a1.d.c, .bool a2.s, .slice a2.m.a a2.m.n a2.m.c, .slice a2.d.a a2.d.n a2.d.c]]) Tryz.func68 rfl Tryz.ntmps68 (rs := [.cell 2 28]) Tryz.results68 (le_b rfl) (le_b rfl) d ?_
 refine sq9 ?_
 refine zzi 1 ⟨28, a1.cs ++ a2.cs⟩ ?_
 refine zzi 2 ⟨28, [.bool false, .slice none 0 0, .slice none 0 0, .bool false, .slice none 0 0, .slice none 0 0]⟩ ?_
 refine zzb 8 [(1, .adr 1 0), (2, .adr 2 0)] [(1, ⟨28, a1.cs ++ a2.cs⟩), (2, ⟨28, [.bool false, .slice none 0 0, .slice none 0 0, .bool false, .slice none 0 0, .slice none 0 0]⟩)] ?_
 refine sq9 ?_
 refine zza 3 (.adr 1 0) ?_
 refine zzg 4 (.v (a1.v)) ty26 zzd ?_
 refine zza 5 (.adr 1 3) ?_
 refine zzg 6 (.v (a2.v)) ty26 zzd ?_
 refine zzf 7 70 [a1.v, a2.v] ?_
 intro w11 u11 e11 d11
 have k18 := k_ivMake d11 (ha1.ext e11) (ha2.ext e11) (by omega)
 with_reducible refine Post.mono k18 ?_
 rintro _ u16 g17 ⟨r12, r14, rfl, h13, h15⟩
 refine zzh ⟨28, r12.cs ++ r14.cs⟩ ty28 ?_
 refine zzb 8 [(2, .adr 2 0)] [(2, ⟨28, r12.cs ++ r14.cs⟩)] ?_
 refine zzm (ret0 [.agg #[.bool r12.s, .slice r12.m.a r12.m.n r12.m.c, .slice r12.d.a r12.d.n r12.d.c, .bool r14.s, .slice r14.m.a r14.m.n r14.m.c, .slice r14.d.a r14.d.n r14.d.c]] ⟨zzp ty28 zzd, trivial⟩ fun u19 e20 => ?_)
 refine ⟨r12, r14, rfl, RatN.more (K := K) ?_ (by omega), RatN.more (K := K) ?_ (by omega)⟩
 ·exact (h13.ext e20)
 ·exact (h15.ext e20)
theorem k_ivContains {u w : World} {a1 a2 : RL} {x1 x2 : Rat} {b : RL} {y : Rat} {K L : Nat} (d : Dat u w) (ha1 : RatV u a1 x1 K) (ha2 : RatV u a2 x2 K) (hb : RatV u b y L) (hK : K ≤ 100000000) (hL : L ≤ 100000000) : Calls Tryz.prog 24 #[IV a1 a2, b.v] w (Post u w fun v u' => v = .bool (Nt.inI x1 x2 y)) := by
 refine zzk (args := [.agg #[.bool a1.s, .slice a1.m.a a1.m.n a1.m.c, .slice a1.d.a a1.d.n a1.d.c, .bool a2.s, .slice a2.m.a a2.m.n a2.m.c, .slice a2.d.a a2.d.n a2.d.c], b.v]) Tryz.func24 rfl Tryz.ntmps24 (rs := [.tmp 4]) Tryz.results24 (le_b rfl) (le_b rfl) d ?_
 refine sq9 ?_
 refine zzi 2 ⟨28, a1.cs ++ a2.cs⟩ ?_
 refine zzi 3 ⟨26, b.cs⟩ ?_
 refine zza 4 (.v (.bool false)) ?_
 refine zzb 22 [(2, .adr 2 0), (3, .adr 3 0)] [(2, ⟨28, a1.cs ++ a2.cs⟩), (3, ⟨26, b.cs⟩)] ?_
 refine sq9 ?_
 refine zzg 8 (.v (.agg #[.bool a1.s, a1.m.v, a1.d.v, .bool a2.s, a2.m.v, a2.d.v])) ty28 zzd ?_
 refine zzf 9 103 [.agg #[.bool a1.s, a1.m.v, a1.d.v, .bool a2.s, a2.m.v, a2.d.v]] ?_
 intro w11 u11 e11 d11
 have k18 := k_ends d11 (ha1.ext e11) (ha2.ext e11) (by omega)
 with_reducible refine Post.mono k18 ?_
 rintro _ u16 g17 ⟨r12, r14, rfl, h13, h15⟩
 refine zza 7 (.v (.tuple #[r12.v, r14.v])) ?_
 refine zza 10 (.v (r12.v)) ?_
 refine zza 11 (.v (r14.v)) ?_
 refine zzi 5 ⟨26, [.bool false, .slice none 0 0, .slice none 0 0]⟩ ?_
 refine zzi 6 ⟨26, [.bool false, .slice none 0 0, .slice none 0 0]⟩ ?_
 refine zzh ⟨26, r12.cs⟩ ty26 ?_
 refine zzh ⟨26, r14.cs⟩ ty26 ?_
 refine zzb 22 [(3, .adr 3 0), (5, .adr 5 0), (6, .adr 6 0)] [(3, ⟨26, b.cs⟩), (5, ⟨26, r12.cs⟩), (6, ⟨26, r14.cs⟩)] ?_
 refine sq9 ?_
 refine zzg 12 (.v (r12.v)) ty26 zzd ?_
 refine zzg 13 (.v (b.v)) ty26 zzd ?_
 refine zzf 14 114 [r12.v, b.v] ?_
 intro w19 u19 e19 d19
 have k22 := k_ratCompare d19 (h13.ext e19) (hb.ext (e11.trans (g17.ext.trans e19))) (by omega) (by omega)
 with_reducible refine Post.mono k22 ?_
 rintro _ u20 g21 rfl
 refine zza 15 (.v (.bool (decide ((Nt.cmpQ (Nt.lo x1 x2) y) ≤ 0)))) ?_
 rcases Bool.eq_false_or_eq_true (decide ((Nt.cmpQ (Nt.lo x1 x2) y) ≤ 0)) with hs23 | hs23
 ·refine zyl 16 (x := .v (.bool (decide ((Nt.cmpQ (Nt.lo x1 x2) y) ≤ 0)))) (.v (.bool true)) (by rw [hs23]) ?_
  have qhs23 := of_decide_eq_true hs23
  refine zzg 17 (.v (b.v)) ty26 zzd ?_ (hw := w1 4 true 16)
  refine zzg 18 (.v (r14.v)) ty26 zzd ?_ (hw := w1 4 true 16)
  refine zzf 19 114 [b.v, r14.v] ?_ (hw := w1 4 true 16)
  intro w24 u24 e24 d24
  have k27 := k_ratCompare d24 (hb.ext (e11.trans (g17.ext.trans (e19.trans (g21.ext.trans e24))))) (h15.ext (e19.trans (g21.ext.trans e24))) (by omega) (by omega)
  with_reducible refine Post.mono k27 ?_
  rintro _ u25 g26 rfl
  refine zza 20 (.v (.bool (decide ((Nt.cmpQ y (Nt.hi x1 x2)) ≤ 0)))) ?_ (hw := w1 4 true 16)
  refine zza 21 (.v (.bool (decide ((Nt.cmpQ y (Nt.hi x1 x2)) ≤ 0)))) ?_
  refine zza 4 (.v (.bool (decide ((Nt.cmpQ y (Nt.hi x1 x2)) ≤ 0)))) ?_
  refine zzb 22 [(4, .v (.bool (decide ((Nt.cmpQ y (Nt.hi x1 x2)) ≤ 0))))] [] ?_
  refine zzm (ret0 [.bool (decide ((Nt.cmpQ y (Nt.hi x1 x2)) ≤ 0))] ⟨zzo, trivial⟩ fun u28 e29 => ?_)
  show _ = _
  unfold Nt.inI
  rw [← Nt.cmpQ_le, ← Nt.cmpQ_le, hs23]
  rfl
 ·refine zyl 16 (x := .v (.bool (decide ((Nt.cmpQ (Nt.lo x1 x2) y) ≤ 0)))) (.v (.bool false)) (by rw [hs23]) ?_
  have qhs23 := of_decide_eq_false hs23
  refine zzl 17 (uw 4 true false 16) ?_
  refine zzl 18 (uw 4 true false 16) ?_
  refine zzl 19 (uw 4 true false 16) ?_
  refine zzl 20 (uw 4 true false 16) ?_
  refine zza 21 (.v (.bool false)) ?_
  refine zza 4 (.v (.bool false)) ?_
  refine zzb 22 [(4, .v (.bool false))] [] ?_
  refine zzm (ret0 [.bool false] ⟨zzo, trivial⟩ fun u30 e31 => ?_)
  show _ = _
  unfold Nt.inI
  rw [← Nt.cmpQ_le, ← Nt.cmpQ_le, hs23]
  rfl
theorem k_ivInside {u w : World} {a1 a2 : RL} {x1 x2 : Rat} {b1 b2 : RL} {y1 y2 : Rat} {K L : Nat} (d : Dat u w) (ha1 : RatV u a1 x1 K) (ha2 : RatV u a2 x2 K) (hb1 : RatV u b1 y1 L) (hb2 : RatV u b2 y2 L) (hK : K ≤ 100000000) (hL : L ≤ 100000000) : Calls Tryz.prog 62 #[IV a1 a2, IV b1 b2] w (Post u w fun v u' => v = .bool (Nt.inI y1 y2 x1 && Nt.inI y1 y2 x2)) := by
 refine zzk (args := [.agg #[.bool a1.s, .slice a1.m.a a1.m.n a1.m.c, .slice a1.d.a a1.d.n a1.d.c, .bool a2.s, .slice a2.m.a a2.m.n a2.m.c, .slice a2.d.a a2.d.n a2.d.c], .agg #[.bool b1.s, .slice b1.m.a b1.m.n b1.m.c, .slice b1.d.a b1.d.n b1.d.c, .bool b2.s, .slice b2.m.a b2.m.n b2.m.c, .slice b2.d.a b2.d.n b2.d.c]]) Tryz.func62 rfl Tryz.ntmps62 (rs := [.tmp 4]) Tryz.results62 (le_b rfl) (le_b rfl) d ?_
 refine sq9 ?_
 refine zzi 2 ⟨28, a1.cs ++ a2.cs⟩ ?_
 refine zzi 3 ⟨28, b1.cs ++ b2.cs⟩ ?_
 refine zza 4 (.v (.bool false)) ?_
 refine zzb 15 [(2, .adr 2 0), (3, .adr 3 0)] [(2, ⟨28, a1.cs ++ a2.cs⟩), (3, ⟨28, b1.cs ++ b2.cs⟩)] ?_
 refine sq9 ?_
 refine zzg 5 (.v (.agg #[.bool b1.s, b1.m.v, b1.d.v, .bool b2.s, b2.m.v, b2.d.v])) ty28 zzd ?_
 refine zza 6 (.adr 2 0) ?_
 refine zzg 7 (.v (a1.v)) ty26 zzd ?_
 refine zzf 8 24 [.agg #[.bool b1.s, b1.m.v, b1.d.v, .bool b2.s, b2.m.v, b2.d.v], a1.v] ?_
 intro w11 u11 e11 d11
 have k14 := k_ivContains d11 (hb1.ext e11) (hb2.ext e11) (ha1.ext e11) (by omega) (by omega)
 with_reducible refine Post.mono k14 ?_
 rintro _ u12 g13 rfl
 rcases Bool.eq_false_or_eq_true (Nt.inI y1 y2 x1) with hs15 | hs15
 ·refine zyl 9 (x := .v (.bool (Nt.inI y1 y2 x1))) (.v (.bool true)) (by rw [hs15]) ?_
  refine zzg 10 (.v (.agg #[.bool b1.s, b1.m.v, b1.d.v, .bool b2.s, b2.m.v, b2.d.v])) ty28 zzd ?_ (hw := w1 4 true 9)
  refine zza 11 (.adr 2 3) ?_ (hw := w1 4 true 9)
  refine zzg 12 (.v (a2.v)) ty26 zzd ?_ (hw := w1 4 true 9)
  refine zzf 13 24 [.agg #[.bool b1.s, b1.m.v, b1.d.v, .bool b2.s, b2.m.v, b2.d.v], a2.v] ?_ (hw := w1 4 true 9)
  intro w16 u16 e16 d16
  have k19 := k_ivContains d16 (hb1.ext (e11.trans (g13.ext.trans e16))) (hb2.ext (e11.trans (g13.ext.trans e16))) (ha2.ext (e11.trans (g13.ext.trans e16))) (by omega) (by omega)
  with_reducible refine Post.mono k19 ?_
  rintro _ u17 g18 rfl
  refine zza 14 (.v (.bool (Nt.inI y1 y2 x2))) ?_
  refine zza 4 (.v (.bool (Nt.inI y1 y2 x2))) ?_
  refine zzb 15 [(4, .v (.bool (Nt.inI y1 y2 x2)))] [] ?_
  refine zzm (ret0 [.bool (Nt.inI y1 y2 x2)] ⟨zzo, trivial⟩ fun u20 e21 => ?_)
  show _ = _
  rw [hs15]
  rfl
 ·refine zyl 9 (x := .v (.bool (Nt.inI y1 y2 x1))) (.v (.bool false)) (by rw [hs15]) ?_
  refine zzl 10 (uw 4 true false 9) ?_
  refine zzl 11 (uw 4 true false 9) ?_
  refine zzl 12 (uw 4 true false 9) ?_
  refine zzl 13 (uw 4 true false 9) ?_
  refine zza 14 (.v (.bool false)) ?_
  refine zza 4 (.v (.bool false)) ?_
  refine zzb 15 [(4, .v (.bool false))] [] ?_
  refine zzm (ret0 [.bool false] ⟨zzo, trivial⟩ fun u22 e23 => ?_)
  show _ = _
  rw [hs15]
  rfl
theorem k_ivSign {u w : World} {a1 a2 : RL} {x1 x2 : Rat} {K : Nat} (d : Dat u w) (ha1 : RatV u a1 x1 K) (ha2 : RatV u a2 x2 K) (hK : K ≤ 100000000) : Calls Tryz.prog 64 #[IV a1 a2] w (Post u w fun v u' => v = .int .i64 (Nt.sgI x1 x2)) := by
 refine zzk (args := [.agg #[.bool a1.s, .slice a1.m.a a1.m.n a1.m.c, .slice a1.d.a a1.d.n a1.d.c, .bool a2.s, .slice a2.m.a a2.m.n a2.m.c, .slice a2.d.a a2.d.n a2.d.c]]) Tryz.func64 rfl Tryz.ntmps64 (rs := [.tmp 2]) Tryz.results64 (le_b rfl) (le_b rfl) d ?_
 refine sq9 ?_
 refine zzi 1 ⟨28, a1.cs ++ a2.cs⟩ ?_
 refine zza 2 (.v (.int .i64 0)) ?_
 refine zzb 18 [(1, .adr 1 0)] [(1, ⟨28, a1.cs ++ a2.cs⟩)] ?_
 refine sq9 ?_
 refine zzg 6 (.v (.agg #[.bool a1.s, a1.m.v, a1.d.v, .bool a2.s, a2.m.v, a2.d.v])) ty28 zzd ?_
 refine zzf 7 103 [.agg #[.bool a1.s, a1.m.v, a1.d.v, .bool a2.s, a2.m.v, a2.d.v]] ?_
 intro w11 u11 e11 d11
 have k18 := k_ends d11 (ha1.ext e11) (ha2.ext e11) (by omega)
 with_reducible refine Post.mono k18 ?_
 rintro _ u16 g17 ⟨r12, r14, rfl, h13, h15⟩
 refine zza 5 (.v (.tuple #[r12.v, r14.v])) ?_
 refine zza 8 (.v (r12.v)) ?_
 refine zza 9 (.v (r14.v)) ?_
 refine zzi 3 ⟨26, [.bool false, .slice none 0 0, .slice none 0 0]⟩ ?_
 refine zzi 4 ⟨26, [.bool false, .slice none 0 0, .slice none 0 0]⟩ ?_
 refine zzh ⟨26, r12.cs⟩ ty26 ?_
 refine zzh ⟨26, r14.cs⟩ ty26 ?_
 refine zzb 18 [(3, .adr 3 0), (4, .adr 4 0)] [(3, ⟨26, r12.cs⟩), (4, ⟨26, r14.cs⟩)] ?_
 refine zzc ?_
 refine zzr ?_
 refine sq9 ?_
 refine zzg 11 (.v (r12.v)) ty26 zzd ?_
 refine zzf 12 132 [r12.v] ?_
 intro w19 u19 e19 d19
 have k22 := k_ratSign d19 (h13.ext e19)
 with_reducible refine Post.mono k22 ?_
 rintro _ u20 g21 rfl
 refine zza 13 (.v (.bool (decide ((0 : Int) < (Nt.sgQ (Nt.lo x1 x2)))))) ?_
 refine zza 10 (.v (.bool (decide ((0 : Int) < (Nt.sgQ (Nt.lo x1 x2)))))) ?_
 refine zzb 18 [(4, .adr 4 0), (10, .v (.bool (decide ((0 : Int) < (Nt.sgQ (Nt.lo x1 x2))))))] [(4, ⟨26, r14.cs⟩)] ?_
 refine zzs (b := decide ((0 : Int) < (Nt.sgQ (Nt.lo x1 x2)))) (by kernel_rfl) (fun hb23 => ?_) (fun hb23 => ?_)
 ·replace hb23 : (decide ((0 : Int) < (Nt.sgQ (Nt.lo x1 x2)))) = true := hb23
  have qhb23 := of_decide_eq_true hb23
  refine sq9 ?_
  refine zza 2 (.v (.int .i64 1)) ?_
  refine zzb 18 [(2, .v (.int .i64 1))] [] ?_
  refine zzm (zyo (zzu (ret0 [.int .i64 1] ⟨zzo, trivial⟩ fun u24 e25 => ?_)))
  show _ = _
  unfold Nt.sgI
  rw [Nt.sgQ_gt] at hb23
  rw [if_pos (of_decide_eq_true hb23)]
  rfl
 ·replace hb23 : (decide ((0 : Int) < (Nt.sgQ (Nt.lo x1 x2)))) = false := hb23
  have qhb23 := of_decide_eq_false hb23
  refine sq9 ?_
  refine zzg 15 (.v (r14.v)) ty26 zzd ?_
  refine zzf 16 132 [r14.v] ?_
  intro w26 u26 e26 d26
  have k29 := k_ratSign d26 (h15.ext (e19.trans (g21.ext.trans e26)))
  with_reducible refine Post.mono k29 ?_
  rintro _ u27 g28 rfl
  refine zza 17 (.v (.bool (decide ((Nt.sgQ (Nt.hi x1 x2)) < 0)))) ?_
  refine zza 14 (.v (.bool (decide ((Nt.sgQ (Nt.hi x1 x2)) < 0)))) ?_
  refine zzb 18 [(14, .v (.bool (decide ((Nt.sgQ (Nt.hi x1 x2)) < 0))))] [] ?_
  refine zzs (b := decide ((Nt.sgQ (Nt.hi x1 x2)) < 0)) (by kernel_rfl) (fun hb30 => ?_) (fun hb30 => ?_)
  ·replace hb30 : (decide ((Nt.sgQ (Nt.hi x1 x2)) < 0)) = true := hb30
   have qhb30 := of_decide_eq_true hb30
   refine sq9 ?_
   refine zza 2 (.v (.int .i64 (-1))) ?_
   refine zzb 18 [(2, .v (.int .i64 (-1)))] [] ?_
   refine zzm (zyo (zzu (ret0 [.int .i64 (-1)] ⟨zzo, trivial⟩ fun u31 e32 => ?_)))
   show _ = _
   unfold Nt.sgI
   rw [Nt.sgQ_gt] at hb23
   rw [if_neg (of_decide_eq_false hb23)]
   rw [Nt.sgQ_lt] at hb30
   rw [if_pos (of_decide_eq_true hb30)]
   rfl
  ·replace hb30 : (decide ((Nt.sgQ (Nt.hi x1 x2)) < 0)) = false := hb30
   have qhb30 := of_decide_eq_false hb30
   refine zzq (zzn ?_)
   refine sq9 ?_
   refine zza 2 (.v (.int .i64 0)) ?_
   refine zzb 18 [(2, .v (.int .i64 0))] [] ?_
   refine zzm (ret0 [.int .i64 0] ⟨zzo, trivial⟩ fun u33 e34 => ?_)
   show _ = _
   unfold Nt.sgI
   rw [Nt.sgQ_gt] at hb23
   rw [if_neg (of_decide_eq_false hb23)]
   rw [Nt.sgQ_lt] at hb30
   rw [if_neg (of_decide_eq_false hb30)]
   rfl
theorem k_ivWidth {u w : World} {a1 a2 : RL} {x1 x2 : Rat} {K : Nat} (d : Dat u w) (ha1 : RatV u a1 x1 K) (ha2 : RatV u a2 x2 K) (hK : K ≤ 50000000) : Calls Tryz.prog 72 #[IV a1 a2] w (Post u w fun v u' => ∃ p : RL, v = p.v ∧ RatN u' p (Nt.absQ (x2 - x1)) (K + K + 1)) := by
 refine zzk (args := [.agg #[.bool a1.s, .slice a1.m.a a1.m.n a1.m.c, .slice a1.d.a a1.d.n a1.d.c, .bool a2.s, .slice a2.m.a a2.m.n a2.m.c, .slice a2.d.a a2.d.n a2.d.c]]) Tryz.func72 rfl Tryz.ntmps72 (rs := [.cell 2 26]) Tryz.results72 (le_b rfl) (le_b rfl) d ?_
 refine sq9 ?_
 refine zzi 1 ⟨28, a1.cs ++ a2.cs⟩ ?_
 refine zzi 2 ⟨26, [.bool false, .slice none 0 0, .slice none 0 0]⟩ ?_
 refine zzb 9 [(1, .adr 1 0), (2, .adr 2 0)] [(1, ⟨28, a1.cs ++ a2.cs⟩), (2, ⟨26, [.bool false, .slice none 0 0, .slice none 0 0]⟩)] ?_
 refine sq9 ?_
 refine zza 3 (.adr 1 3) ?_
 refine zzg 4 (.v (a2.v)) ty26 zzd ?_
 refine zza 5 (.adr 1 0) ?_
 refine zzg 6 (.v (a1.v)) ty26 zzd ?_
 refine zzf 7 109 [a2.v, a1.v] ?_
 intro w11 u11 e11 d11
 have k16 := k_ratSub d11 (ha2.ext e11) (ha1.ext e11) (by omega) (by omega)
 with_reducible refine Post.mono k16 ?_
 rintro _ u14 g15 ⟨r12, rfl, h13⟩
 refine zzf 8 139 [r12.v] ?_
 intro w17 u17 e17 d17
 have k22 := k_ratAbs d17 (h13.ext e17).raw (by omega)
 with_reducible refine Post.mono k22 ?_
 rintro _ u20 g21 ⟨r18, rfl, h19⟩
 refine zzh ⟨26, r18.cs⟩ ty26 ?_
 refine zzb 9 [(2, .adr 2 0)] [(2, ⟨26, r18.cs⟩)] ?_
 refine zzm (ret0 [r18.v] ⟨zzp ty26 zzd, trivial⟩ fun u23 e24 => ?_)
 exact ⟨r18, rfl, (h19.ext e24)⟩
theorem k_ivMid {u w : World} {a1 a2 : RL} {x1 x2 : Rat} {K : Nat} (d : Dat u w) (ha1 : RatV u a1 x1 K) (ha2 : RatV u a2 x2 K) (hK : K ≤ 50000000) : Calls Tryz.prog 73 #[IV a1 a2] w (Post u w fun v u' => ∃ p : RL, v = p.v ∧ RatN u' p ((x1 + x2) * (((1 : Int) : Rat) / ((2 : Int) : Rat))) (K + K + 1 + 2)) := by
 refine zzk (args := [.agg #[.bool a1.s, .slice a1.m.a a1.m.n a1.m.c, .slice a1.d.a a1.d.n a1.d.c, .bool a2.s, .slice a2.m.a a2.m.n a2.m.c, .slice a2.d.a a2.d.n a2.d.c]]) Tryz.func73 rfl Tryz.ntmps73 (rs := [.cell 2 26]) Tryz.results73 (le_b rfl) (le_b rfl) d ?_
 refine sq9 ?_
 refine zzi 1 ⟨28, a1.cs ++ a2.cs⟩ ?_
 refine zzi 2 ⟨26, [.bool false, .slice none 0 0, .slice none 0 0]⟩ ?_
 refine zzb 10 [(1, .adr 1 0), (2, .adr 2 0)] [(1, ⟨28, a1.cs ++ a2.cs⟩), (2, ⟨26, [.bool false, .slice none 0 0, .slice none 0 0]⟩)] ?_
 refine sq9 ?_
 refine zza 3 (.adr 1 0) ?_
 refine zzg 4 (.v (a1.v)) ty26 zzd ?_
 refine zza 5 (.adr 1 3) ?_
 refine zzg 6 (.v (a2.v)) ty26 zzd ?_
 refine zzf 7 104 [a1.v, a2.v] ?_
 intro w11 u11 e11 d11
 have k16 := k_ratAdd d11 (ha1.ext e11) (ha2.ext e11) (by omega) (by omega)
 with_reducible refine Post.mono k16 ?_
 rintro _ u14 g15 ⟨r12, rfl, h13⟩
 refine zzf 8 140 [.int .i64 1, .int .i64 2] ?_
 intro w17 u17 e17 d17
 have k22 := k_ratFrac d17 (a := 1) (b := 2) (by omega) (by omega) (by omega) (by omega)
 with_reducible refine Post.mono k22 ?_
 rintro _ u20 g21 ⟨r18, rfl, h19⟩
 refine zzf 9 111 [r12.v, r18.v] ?_
 intro w23 u23 e23 d23
 have k28 := k_ratMul d23 (h13.ext (e17.trans (g21.ext.trans e23))).raw (h19.ext e23).raw (by omega) (by omega)
 with_reducible refine Post.mono k28 ?_
 rintro _ u26 g27 ⟨r24, rfl, h25⟩
 refine zzh ⟨26, r24.cs⟩ ty26 ?_
 refine zzb 10 [(2, .adr 2 0)] [(2, ⟨26, r24.cs⟩)] ?_
 refine zzm (ret0 [r24.v] ⟨zzp ty26 zzd, trivial⟩ fun u29 e30 => ?_)
 exact ⟨r24, rfl, (h25.ext e30)⟩
theorem k_ivAdd {u w : World} {a1 a2 : RL} {x1 x2 : Rat} {b1 b2 : RL} {y1 y2 : Rat} {K L : Nat} (d : Dat u w) (ha1 : RatV u a1 x1 K) (ha2 : RatV u a2 x2 K) (hb1 : RatV u b1 y1 L) (hb2 : RatV u b2 y2 L) (hK : K ≤ 100000000) (hL : L ≤ 100000000) : Calls Tryz.prog 17 #[IV a1 a2, IV b1 b2] w (Post u w fun v u' => ∃ p q : RL, v = IV p q ∧ RatN u' p (Nt.lo x1 x2 + Nt.lo y1 y2) (K + L + 1) ∧ RatN u' q (Nt.hi x1 x2 + Nt.hi y1 y2) (K + L + 1)) := by
 refine zzk (args := [.agg #[.bool a1.s, .slice a1.m.a a1.m.n a1.m.c, .slice a1.d.a a1.d.n a1.d.c, .bool a2.s, .slice a2.m.a a2.m.n a2.m.c, .slice a2.d.a a2.d.n a2.d.c], .agg #[.bool b1.s, .slice b1.m.a b1.m.n b1.m.c, .slice b1.d.a b1.d.n b1.d.c, .bool b2.s, .slice b2.m.a b2.m.n b2.m.c, .slice b2.d.a b2.d.n b2.d.c]]) Tryz.func17 rfl Tryz.ntmps17 (rs := [.cell 4 28]) Tryz.results17 (le_b rfl) (le_b rfl) d ?_
 refine sq9 ?_
 refine zzi 2 ⟨28, a1.cs ++ a2.cs⟩ ?_
 refine zzi 3 ⟨28, b1.cs ++ b2.cs⟩ ?_
 refine zzi 4 ⟨28, [.bool false, .slice none 0 0, .slice none 0 0, .bool false, .slice none 0 0, .slice none 0 0]⟩ ?_
 refine zzb 26 [(2, .adr 2 0), (3, .adr 3 0), (4, .adr 4 0)] [(2, ⟨28, a1.cs ++ a2.cs⟩), (3, ⟨28, b1.cs ++ b2.cs⟩), (4, ⟨28, [.bool false, .slice none 0 0, .slice none 0 0, .bool false, .slice none 0 0, .slice none 0 0]⟩)] ?_
 refine sq9 ?_
 refine zzg 10 (.v (.agg #[.bool a1.s, a1.m.v, a1.d.v, .bool a2.s, a2.m.v, a2.d.v])) ty28 zzd ?_
 refine zzf 11 103 [.agg #[.bool a1.s, a1.m.v, a1.d.v, .bool a2.s, a2.m.v, a2.d.v]] ?_
 intro w11 u11 e11 d11
 have k18 := k_ends d11 (ha1.ext e11) (ha2.ext e11) (by omega)
 with_reducible refine Post.mono k18 ?_
 rintro _ u16 g17 ⟨r12, r14, rfl, h13, h15⟩
 refine zza 9 (.v (.tuple #[r12.v, r14.v])) ?_
 refine zza 12 (.v (r12.v)) ?_
 refine zza 13 (.v (r14.v)) ?_
 refine zzi 5 ⟨26, [.bool false, .slice none 0 0, .slice none 0 0]⟩ ?_
 refine zzi 6 ⟨26, [.bool false, .slice none 0 0, .slice none 0 0]⟩ ?_
 refine zzh ⟨26, r12.cs⟩ ty26 ?_
 refine zzh ⟨26, r14.cs⟩ ty26 ?_
 refine zzb 26 [(3, .adr 3 0), (4, .adr 4 0), (5, .adr 5 0), (6, .adr 6 0)] [(3, ⟨28, b1.cs ++ b2.cs⟩), (4, ⟨28, [.bool false, .slice none 0 0, .slice none 0 0, .bool false, .slice none 0 0, .slice none 0 0]⟩), (5, ⟨26, r12.cs⟩), (6, ⟨26, r14.cs⟩)] ?_
 refine sq9 ?_
 refine zzg 15 (.v (.agg #[.bool b1.s, b1.m.v, b1.d.v, .bool b2.s, b2.m.v, b2.d.v])) ty28 zzd ?_
 refine zzf 16 103 [.agg #[.bool b1.s, b1.m.v, b1.d.v, .bool b2.s, b2.m.v, b2.d.v]] ?_
 intro w19 u19 e19 d19
 have k26 := k_ends d19 (hb1.ext (e11.trans (g17.ext.trans e19))) (hb2.ext (e11.trans (g17.ext.trans e19))) (by omega)
 with_reducible refine Post.mono k26 ?_
 rintro _ u24 g25 ⟨r20, r22, rfl, h21, h23⟩
 refine zza 14 (.v (.tuple #[r20.v, r22.v])) ?_
 refine zza 17 (.v (r20.v)) ?_
 refine zza 18 (.v (r22.v)) ?_
 refine zzi 7 ⟨26, [.bool false, .slice none 0 0, .slice none 0 0]⟩ ?_
 refine zzi 8 ⟨26, [.bool false, .slice none 0 0, .slice none 0 0]⟩ ?_
 refine zzh ⟨26, r20.cs⟩ ty26 ?_
 refine zzh ⟨26, r22.cs⟩ ty26 ?_
 refine zzb 26 [(4, .adr 4 0), (5, .adr 5 0), (6, .adr 6 0), (7, .adr 7 0), (8, .adr 8 0)] [(4, ⟨28, [.bool false, .slice none 0 0, .slice none 0 0, .bool false, .slice none 0 0, .slice none 0 0]⟩), (5, ⟨26, r12.cs⟩), (6, ⟨26, r14.cs⟩), (7, ⟨26, r20.cs⟩), (8, ⟨26, r22.cs⟩)] ?_
 refine zzc ?_
 refine zzx [0, 0, 3, 0, 0, 31, 63, 127] [(0, []), (1, []), (3, []), (4, []), (2, []), (5, []), (6, []), (7, [])] (by kernel_rfl) (by kernel_rfl) ?_
 refine zzg 19 (.v (r12.v)) ty26 zzd ?_
 refine zzg 20 (.v (r20.v)) ty26 zzd ?_
 refine zzg 22 (.v (r14.v)) ty26 zzd ?_
 refine zzg 23 (.v (r22.v)) ty26 zzd ?_
 refine zzf 21 104 [r12.v, r20.v] ?_
 intro w27 u27 e27 d27
 have k32 := k_ratAdd d27 (h13.ext (e19.trans (g25.ext.trans e27))) (h21.ext e27) (by omega) (by omega)
 with_reducible refine Post.mono k32 ?_
 rintro _ u30 g31 ⟨r28, rfl, h29⟩
 refine zzf 24 104 [r14.v, r22.v] ?_
 intro w33 u33 e33 d33
 have k38 := k_ratAdd d33 (h15.ext (e19.trans (g25.ext.trans (e27.trans (g31.ext.trans e33))))) (h23.ext (e27.trans (g31.ext.trans e33))) (by omega) (by omega)
 with_reducible refine Post.mono k38 ?_
 rintro _ u36 g37 ⟨r34, rfl, h35⟩
 refine zza 25 (.v (.agg #[.bool r28.s, r28.m.v, r28.d.v, .bool r34.s, r34.m.v, r34.d.v])) ?_
 refine zzh ⟨28, r28.cs ++ r34.cs⟩ ty28 ?_
 refine zzb 26 [(4, .adr 4 0)] [(4, ⟨28, r28.cs ++ r34.cs⟩)] ?_
 refine zzm (ret0 [.agg #[.bool r28.s, .slice r28.m.a r28.m.n r28.m.c, .slice r28.d.a r28.d.n r28.d.c, .bool r34.s, .slice r34.m.a r34.m.n r34.m.c, .slice r34.d.a r34.d.n r34.d.c]] ⟨zzp ty28 zzd, trivial⟩ fun u39 e40 => ?_)
 refine ⟨r28, r34, rfl, RatN.more (K := (K + L + 1)) ?_ (by omega), RatN.more (K := (K + L + 1)) ?_ (by omega)⟩
 ·exact (h29.ext (e33.trans (g37.ext.trans e40)))
 ·exact (h35.ext e40)
theorem k_ivSub {u w : World} {a1 a2 : RL} {x1 x2 : Rat} {b1 b2 : RL} {y1 y2 : Rat} {K L : Nat} (d : Dat u w) (ha1 : RatV u a1 x1 K) (ha2 : RatV u a2 x2 K) (hb1 : RatV u b1 y1 L) (hb2 : RatV u b2 y2 L) (hK : K ≤ 100000000) (hL : L ≤ 100000000) : Calls Tryz.prog 19 #[IV a1 a2, IV b1 b2] w (Post u w fun v u' => ∃ p q : RL, v = IV p q ∧ RatN u' p (Nt.lo x1 x2 - Nt.hi y1 y2) (K + L + 1) ∧ RatN u' q (Nt.hi x1 x2 - Nt.lo y1 y2) (K + L + 1)) := by
 refine zzk (args := [.agg #[.bool a1.s, .slice a1.m.a a1.m.n a1.m.c, .slice a1.d.a a1.d.n a1.d.c, .bool a2.s, .slice a2.m.a a2.m.n a2.m.c, .slice a2.d.a a2.d.n a2.d.c], .agg #[.bool b1.s, .slice b1.m.a b1.m.n b1.m.c, .slice b1.d.a b1.d.n b1.d.c, .bool b2.s, .slice b2.m.a b2.m.n b2.m.c, .slice b2.d.a b2.d.n b2.d.c]]) Tryz.func19 rfl Tryz.ntmps19 (rs := [.cell 4 28]) Tryz.results19 (le_b rfl) (le_b rfl) d ?_
 refine sq9 ?_
 refine zzi 2 ⟨28, a1.cs ++ a2.cs⟩ ?_
 refine zzi 3 ⟨28, b1.cs ++ b2.cs⟩ ?_
 refine zzi 4 ⟨28, [.bool false, .slice none 0 0, .slice none 0 0, .bool false, .slice none 0 0, .slice none 0 0]⟩ ?_
 refine zzb 26 [(2, .adr 2 0), (3, .adr 3 0), (4, .adr 4 0)] [(2, ⟨28, a1.cs ++ a2.cs⟩), (3, ⟨28, b1.cs ++ b2.cs⟩), (4, ⟨28, [.bool false, .slice none 0 0, .slice none 0 0, .bool false, .slice none 0 0, .slice none 0 0]⟩)] ?_
 refine sq9 ?_
 refine zzg 10 (.v (.agg #[.bool a1.s, a1.m.v, a1.d.v, .bool a2.s, a2.m.v, a2.d.v])) ty28 zzd ?_
 refine zzf 11 103 [.agg #[.bool a1.s, a1.m.v, a1.d.v, .bool a2.s, a2.m.v, a2.d.v]] ?_
 intro w11 u11 e11 d11
 have k18 := k_ends d11 (ha1.ext e11) (ha2.ext e11) (by omega)
 with_reducible refine Post.mono k18 ?_
 rintro _ u16 g17 ⟨r12, r14, rfl, h13, h15⟩
 refine zza 9 (.v (.tuple #[r12.v, r14.v])) ?_
 refine zza 12 (.v (r12.v)) ?_
 refine zza 13 (.v (r14.v)) ?_
 refine zzi 5 ⟨26, [.bool false, .slice none 0 0, .slice none 0 0]⟩ ?_
 refine zzi 6 ⟨26, [.bool false, .slice none 0 0, .slice none 0 0]⟩ ?_
 refine zzh ⟨26, r12.cs⟩ ty26 ?_
 refine zzh ⟨26, r14.cs⟩ ty26 ?_
 refine zzb 26 [(3, .adr 3 0), (4, .adr 4 0), (5, .adr 5 0), (6, .adr 6 0)] [(3, ⟨28, b1.cs ++ b2.cs⟩), (4, ⟨28, [.bool false, .slice none 0 0, .slice none 0 0, .bool false, .slice none 0 0, .slice none 0 0]⟩), (5, ⟨26, r12.cs⟩), (6, ⟨26, r14.cs⟩)] ?_
 refine sq9 ?_
 refine zzg 15 (.v (.agg #[.bool b1.s, b1.m.v, b1.d.v, .bool b2.s, b2.m.v, b2.d.v])) ty28 zzd ?_
 refine zzf 16 103 [.agg #[.bool b1.s, b1.m.v, b1.d.v, .bool b2.s, b2.m.v, b2.d.v]] ?_
 intro w19 u19 e19 d19
 have k26 := k_ends d19 (hb1.ext (e11.trans (g17.ext.trans e19))) (hb2.ext (e11.trans (g17.ext.trans e19))) (by omega)
 with_reducible refine Post.mono k26 ?_
 rintro _ u24 g25 ⟨r20, r22, rfl, h21, h23⟩
 refine zza 14 (.v (.tuple #[r20.v, r22.v])) ?_
 refine zza 17 (.v (r20.v)) ?_
 refine zza 18 (.v (r22.v)) ?_
 refine zzi 7 ⟨26, [.bool false, .slice none 0 0, .slice none 0 0]⟩ ?_
 refine zzi 8 ⟨26, [.bool false, .slice none 0 0, .slice none 0 0]⟩ ?_
 refine zzh ⟨26, r20.cs⟩ ty26 ?_
 refine zzh ⟨26, r22.cs⟩ ty26 ?_
 refine zzb 26 [(4, .adr 4 0), (5, .adr 5 0), (6, .adr 6 0), (7, .adr 7 0), (8, .adr 8 0)] [(4, ⟨28, [.bool false, .slice none 0 0, .slice none 0 0, .bool false, .slice none 0 0, .slice none 0 0]⟩), (5, ⟨26, r12.cs⟩), (6, ⟨26, r14.cs⟩), (7, ⟨26, r20.cs⟩), (8, ⟨26, r22.cs⟩)] ?_
 refine zzc ?_
 refine zzx [0, 0, 3, 0, 0, 31, 63, 127] [(0, []), (1, []), (3, []), (4, []), (2, []), (5, []), (6, []), (7, [])] (by kernel_rfl) (by kernel_rfl) ?_
 refine zzg 19 (.v (r12.v)) ty26 zzd ?_
 refine zzg 20 (.v (r22.v)) ty26 zzd ?_
 refine zzg 22 (.v (r14.v)) ty26 zzd ?_
 refine zzg 23 (.v (r20.v)) ty26 zzd ?_
 refine zzf 21 109 [r12.v, r22.v] ?_
 intro w27 u27 e27 d27
 have k32 := k_ratSub d27 (h13.ext (e19.trans (g25.ext.trans e27))) (h23.ext e27) (by omega) (by omega)
 with_reducible refine Post.mono k32 ?_
 rintro _ u30 g31 ⟨r28, rfl, h29⟩
 refine zzf 24 109 [r14.v, r20.v] ?_
 intro w33 u33 e33 d33
 have k38 := k_ratSub d33 (h15.ext (e19.trans (g25.ext.trans (e27.trans (g31.ext.trans e33))))) (h21.ext (e27.trans (g31.ext.trans e33))) (by omega) (by omega)
 with_reducible refine Post.mono k38 ?_
 rintro _ u36 g37 ⟨r34, rfl, h35⟩
 refine zza 25 (.v (.agg #[.bool r28.s, r28.m.v, r28.d.v, .bool r34.s, r34.m.v, r34.d.v])) ?_
 refine zzh ⟨28, r28.cs ++ r34.cs⟩ ty28 ?_
 refine zzb 26 [(4, .adr 4 0)] [(4, ⟨28, r28.cs ++ r34.cs⟩)] ?_
 refine zzm (ret0 [.agg #[.bool r28.s, .slice r28.m.a r28.m.n r28.m.c, .slice r28.d.a r28.d.n r28.d.c, .bool r34.s, .slice r34.m.a r34.m.n r34.m.c, .slice r34.d.a r34.d.n r34.d.c]] ⟨zzp ty28 zzd, trivial⟩ fun u39 e40 => ?_)
 refine ⟨r28, r34, rfl, RatN.more (K := (K + L + 1)) ?_ (by omega), RatN.more (K := (K + L + 1)) ?_ (by omega)⟩
 ·exact (h29.ext (e33.trans (g37.ext.trans e40)))
 ·exact (h35.ext e40)
theorem k_ivMul {u w : World} {a1 a2 : RL} {x1 x2 : Rat} {b1 b2 : RL} {y1 y2 : Rat} {K L : Nat} (d : Dat u w) (ha1 : RatV u a1 x1 K) (ha2 : RatV u a2 x2 K) (hb1 : RatV u b1 y1 L) (hb2 : RatV u b2 y2 L) (hK : K ≤ 100000000) (hL : L ≤ 100000000) : Calls Tryz.prog 21 #[IV a1 a2, IV b1 b2] w (Post u w fun v u' => ∃ p q : RL, v = IV p q ∧ RatN u' p (Nt.lo4 (x1 * y1) (x1 * y2) (x2 * y1) (x2 * y2)) (K + L) ∧ RatN u' q (Nt.hi4 (x1 * y1) (x1 * y2) (x2 * y1) (x2 * y2)) (K + L)) := by
 refine zzk (args := [.agg #[.bool a1.s, .slice a1.m.a a1.m.n a1.m.c, .slice a1.d.a a1.d.n a1.d.c, .bool a2.s, .slice a2.m.a a2.m.n a2.m.c, .slice a2.d.a a2.d.n a2.d.c], .agg #[.bool b1.s, .slice b1.m.a b1.m.n b1.m.c, .slice b1.d.a b1.d.n b1.d.c, .bool b2.s, .slice b2.m.a b2.m.n b2.m.c, .slice b2.d.a b2.d.n b2.d.c]]) Tryz.func21 rfl Tryz.ntmps21 (rs := [.cell 4 28]) Tryz.results21 (le_b rfl) (le_b rfl) d ?_
 refine sq9 ?_
 refine zzi 2 ⟨28, a1.cs ++ a2.cs⟩ ?_
 refine zzi 3 ⟨28, b1.cs ++ b2.cs⟩ ?_
 refine zzi 4 ⟨28, [.bool false, .slice none 0 0, .slice none 0 0, .bool false, .slice none 0 0, .slice none 0 0]⟩ ?_
 refine zzb 27 [(2, .adr 2 0), (3, .adr 3 0), (4, .adr 4 0)] [(2, ⟨28, a1.cs ++ a2.cs⟩), (3, ⟨28, b1.cs ++ b2.cs⟩), (4, ⟨28, [.bool false, .slice none 0 0, .slice none 0 0, .bool false, .slice none 0 0, .slice none 0 0]⟩)] ?_
 refine zzc ?_
 refine zzx [0, 1, 0, 4, 15, 0, 32, 0, 128, 511, 0, 1024, 0, 4096, 16383, 0, 32768, 0, 131072, 524287, 1048575, 2097151, 4194303] [(0, []), (1, []), (2, []), (3, []), (5, []), (6, []), (7, []), (8, []), (10, []), (11, []), (12, []), (13, []), (15, []), (16, []), (17, []), (18, []), (4, []), (9, []), (14, []), (19, []), (20, []), (21, []), (22, [])] (by kernel_rfl) (by kernel_rfl) ?_
 refine zza 5 (.adr 2 0) ?_
 refine zzg 6 (.v (a1.v)) ty26 zzd ?_
 refine zza 7 (.adr 3 0) ?_
 refine zzg 8 (.v (b1.v)) ty26 zzd ?_
 refine zza 10 (.adr 2 0) ?_
 refine zzg 11 (.v (a1.v)) ty26 zzd ?_
 refine zza 12 (.adr 3 3) ?_
 refine zzg 13 (.v (b2.v)) ty26 zzd ?_
 refine zza 15 (.adr 2 3) ?_
 refine zzg 16 (.v (a2.v)) ty26 zzd ?_
 refine zza 17 (.adr 3 0) ?_
 refine zzg 18 (.v (b1.v)) ty26 zzd ?_
 refine zza 20 (.adr 2 3) ?_
 refine zzg 21 (.v (a2.v)) ty26 zzd ?_
 refine zza 22 (.adr 3 3) ?_
 refine zzg 23 (.v (b2.v)) ty26 zzd ?_
 refine zzf 9 111 [a1.v, b1.v] ?_
 intro w11 u11 e11 d11
 have k16 := k_ratMul d11 (ha1.ext e11) (hb1.ext e11) (by omega) (by omega)
 with_reducible refine Post.mono k16 ?_
 rintro _ u14 g15 ⟨r12, rfl, h13⟩
 refine zzf 14 111 [a1.v, b2.v] ?_
 intro w17 u17 e17 d17
 have k22 := k_ratMul d17 (ha1.ext (e11.trans (g15.ext.trans e17))) (hb2.ext (e11.trans (g15.ext.trans e17))) (by omega) (by omega)
 with_reducible refine Post.mono k22 ?_
 rintro _ u20 g21 ⟨r18, rfl, h19⟩
 refine zzf 19 111 [a2.v, b1.v] ?_
 intro w23 u23 e23 d23
 have k28 := k_ratMul d23 (ha2.ext (e11.trans (g15.ext.trans (e17.trans (g21.ext.trans e23))))) (hb1.ext (e11.trans (g15.ext.trans (e17.trans (g21.ext.trans e23))))) (by omega) (by omega)
 with_reducible refine Post.mono k28 ?_
 rintro _ u26 g27 ⟨r24, rfl, h25⟩
 refine zzf 24 111 [a2.v, b2.v] ?_
 intro w29 u29 e29 d29
 have k34 := k_ratMul d29 (ha2.ext (e11.trans (g15.ext.trans (e17.trans (g21.ext.trans (e23.trans (g27.ext.trans e29))))))) (hb2.ext (e11.trans (g15.ext.trans (e17.trans (g21.ext.trans (e23.trans (g27.ext.trans e29))))))) (by omega) (by omega)
 with_reducible refine Post.mono k34 ?_
 rintro _ u32 g33 ⟨r30, rfl, h31⟩
 refine zza 25 (.v (.agg #[.bool r12.s, r12.m.v, r12.d.v, .bool r18.s, r18.m.v, r18.d.v, .bool r24.s, r24.m.v, r24.d.v, .bool r30.s, r30.m.v, r30.d.v])) ?_
 refine zzf 26 100 [.agg #[.bool r12.s, r12.m.v, r12.d.v, .bool r18.s, r18.m.v, r18.d.v, .bool r24.s, r24.m.v, r24.d.v, .bool r30.s, r30.m.v, r30.d.v]] ?_
 intro w35 u35 e35 d35
 have k42 := k_around d35 (h13.ext (e17.trans (g21.ext.trans (e23.trans (g27.ext.trans (e29.trans (g33.ext.trans e35))))))) (h19.ext (e23.trans (g27.ext.trans (e29.trans (g33.ext.trans e35))))) (h25.ext (e29.trans (g33.ext.trans e35))) (h31.ext e35) (by omega)
 with_reducible refine Post.mono k42 ?_
 rintro _ u40 g41 ⟨r36, r38, rfl, h37, h39⟩
 refine zzh ⟨28, r36.cs ++ r38.cs⟩ ty28 ?_
 refine zzb 27 [(4, .adr 4 0)] [(4, ⟨28, r36.cs ++ r38.cs⟩)] ?_
 refine zzm (ret0 [.agg #[.bool r36.s, .slice r36.m.a r36.m.n r36.m.c, .slice r36.d.a r36.d.n r36.d.c, .bool r38.s, .slice r38.m.a r38.m.n r38.m.c, .slice r38.d.a r38.d.n r38.d.c]] ⟨zzp ty28 zzd, trivial⟩ fun u43 e44 => ?_)
 refine ⟨r36, r38, rfl, RatN.more (K := (K + L)) ?_ (by omega), RatN.more (K := (K + L)) ?_ (by omega)⟩
 ·exact (h37.ext e44)
 ·exact (h39.ext e44)
theorem k_ivSquare {u w : World} {a1 a2 : RL} {x1 x2 : Rat} {K : Nat} (d : Dat u w) (ha1 : RatV u a1 x1 K) (ha2 : RatV u a2 x2 K) (hK : K ≤ 50000000) : Calls Tryz.prog 23 #[IV a1 a2] w (Post u w fun v u' => ∃ p q : RL, v = IV p q ∧ RatN u' p (if Nt.sgI x1 x2 = 0 then 0 else Nt.lo (x1 * x1) (x2 * x2)) (K + K + 2) ∧ RatN u' q (Nt.hi (x1 * x1) (x2 * x2)) (K + K + 2)) := by
 refine zzk (args := [.agg #[.bool a1.s, .slice a1.m.a a1.m.n a1.m.c, .slice a1.d.a a1.d.n a1.d.c, .bool a2.s, .slice a2.m.a a2.m.n a2.m.c, .slice a2.d.a a2.d.n a2.d.c]]) Tryz.func23 rfl Tryz.ntmps23 (rs := [.cell 2 28]) Tryz.results23 (le_b rfl) (le_b rfl) d ?_
 refine sq9 ?_
 refine zzi 1 ⟨28, a1.cs ++ a2.cs⟩ ?_
 refine zzi 2 ⟨28, [.bool false, .slice none 0 0, .slice none 0 0, .bool false, .slice none 0 0, .slice none 0 0]⟩ ?_
 refine zzb 26 [(1, .adr 1 0), (2, .adr 2 0)] [(1, ⟨28, a1.cs ++ a2.cs⟩), (2, ⟨28, [.bool false, .slice none 0 0, .slice none 0 0, .bool false, .slice none 0 0, .slice none 0 0]⟩)] ?_
 refine zzc ?_
 refine zzx [0, 1, 0, 4, 15, 0, 32, 0, 128, 511, 0, 0, 4095, 8191] [(0, []), (1, []), (2, []), (3, []), (5, []), (6, []), (7, []), (8, []), (10, []), (11, []), (4, []), (9, []), (12, []), (13, [])] (by kernel_rfl) (by kernel_rfl) ?_
 refine zza 5 (.adr 1 0) ?_
 refine zzg 6 (.v (a1.v)) ty26 zzd ?_
 refine zza 7 (.adr 1 0) ?_
 refine zzg 8 (.v (a1.v)) ty26 zzd ?_
 refine zza 10 (.adr 1 3) ?_
 refine zzg 11 (.v (a2.v)) ty26 zzd ?_
 refine zza 12 (.adr 1 3) ?_
 refine zzg 13 (.v (a2.v)) ty26 zzd ?_
 refine zzi 3 ⟨26, [.bool false, .slice none 0 0, .slice none 0 0]⟩ ?_
 refine zzi 4 ⟨26, [.bool false, .slice none 0 0, .slice none 0 0]⟩ ?_
 refine zzf 9 111 [a1.v, a1.v] ?_
 intro w11 u11 e11 d11
 have k16 := k_ratMul d11 (ha1.ext e11) (ha1.ext e11) (by omega) (by omega)
 with_reducible refine Post.mono k16 ?_
 rintro _ u14 g15 ⟨r12, rfl, h13⟩
 refine zzf 14 111 [a2.v, a2.v] ?_
 intro w17 u17 e17 d17
 have k22 := k_ratMul d17 (ha2.ext (e11.trans (g15.ext.trans e17))) (ha2.ext (e11.trans (g15.ext.trans e17))) (by omega) (by omega)
 with_reducible refine Post.mono k22 ?_
 rintro _ u20 g21 ⟨r18, rfl, h19⟩
 refine zzh ⟨26, r12.cs⟩ ty26 ?_
 refine zzh ⟨26, r18.cs⟩ ty26 ?_
 refine zzb 26 [(1, .adr 1 0), (2, .adr 2 0), (3, .adr 3 0), (4, .adr 4 0)] [(1, ⟨28, a1.cs ++ a2.cs⟩), (2, ⟨28, [.bool false, .slice none 0 0, .slice none 0 0, .bool false, .slice none 0 0, .slice none 0 0]⟩), (3, ⟨26, r12.cs⟩), (4, ⟨26, r18.cs⟩)] ?_
 refine zzc ?_
 refine sq9 ?_
 refine zzg 15 (.v (.agg #[.bool a1.s, a1.m.v, a1.d.v, .bool a2.s, a2.m.v, a2.d.v])) ty28 zzd ?_
 refine zzf 16 64 [.agg #[.bool a1.s, a1.m.v, a1.d.v, .bool a2.s, a2.m.v, a2.d.v]] ?_
 intro w23 u23 e23 d23
 have k26 := k_ivSign d23 (ha1.ext (e11.trans (g15.ext.trans (e17.trans (g21.ext.trans e23))))) (ha2.ext (e11.trans (g15.ext.trans (e17.trans (g21.ext.trans e23))))) (by omega)
 with_reducible refine Post.mono k26 ?_
 rintro _ u24 g25 rfl
 refine zza 17 (.v (.bool ((Nt.sgI x1 x2) == 0))) ?_
 refine zzb 26 [(2, .adr 2 0), (3, .adr 3 0), (4, .adr 4 0), (17, .v (.bool ((Nt.sgI x1 x2) == 0)))] [(2, ⟨28, [.bool false, .slice none 0 0, .slice none 0 0, .bool false, .slice none 0 0, .slice none 0 0]⟩), (3, ⟨26, r12.cs⟩), (4, ⟨26, r18.cs⟩)] ?_
 refine zzs (b := (Nt.sgI x1 x2) == 0) (by kernel_rfl) (fun hb27 => ?_) (fun hb27 => ?_)
 ·replace hb27 : ((Nt.sgI x1 x2) == 0) = true := hb27
  refine zzc ?_
  refine zzx [0, 0, 0, 7, 15, 31] [(1, []), (2, []), (0, []), (3, []), (4, []), (5, [])] (by kernel_rfl) (by kernel_rfl) ?_
  refine zzg 19 (.v (r12.v)) ty26 zzd ?_
  refine zzg 20 (.v (r18.v)) ty26 zzd ?_
  refine zzf 18 112 [.int .i64 0] ?_
  intro w28 u28 e28 d28
  have k33 := k_ratOf d28 (z := 0) (by omega) (by omega)
  with_reducible refine Post.mono k33 ?_
  rintro _ u31 g32 ⟨r29, rfl, h30⟩
  refine zzf 21 113 [r12.v, r18.v] ?_
  intro w34 u34 e34 d34
  have k39 := k_greaterN d34 (h13.ext (e17.trans (g21.ext.trans (e23.trans (g25.ext.trans (e28.trans (g32.ext.trans e34))))))) (h19.ext (e23.trans (g25.ext.trans (e28.trans (g32.ext.trans e34))))) (by omega)
  with_reducible refine Post.mono k39 ?_
  rintro _ u37 g38 ⟨r35, rfl, h36⟩
  refine zza 22 (.v (.agg #[.bool r29.s, r29.m.v, r29.d.v, .bool r35.s, r35.m.v, r35.d.v])) ?_
  refine zzh ⟨28, r29.cs ++ r35.cs⟩ ty28 ?_
  refine zzb 26 [(2, .adr 2 0)] [(2, ⟨28, r29.cs ++ r35.cs⟩)] ?_
  refine zzm (zzu (ret0 [.agg #[.bool r29.s, .slice r29.m.a r29.m.n r29.m.c, .slice r29.d.a r29.d.n r29.d.c, .bool r35.s, .slice r35.m.a r35.m.n r35.m.c, .slice r35.d.a r35.d.n r35.d.c]] ⟨zzp ty28 zzd, trivial⟩ fun u40 e41 => ?_))
  refine ⟨r29, r35, rfl, RatN.more (K := 2) ?_ (by omega), RatN.more (K := (K + K)) ?_ (by omega)⟩
  ·rw [if_pos (by simpa using hb27)]
   exact (h30.ext (e34.trans (g38.ext.trans e41)))
  ·exact (h36.ext e41)
 ·replace hb27 : ((Nt.sgI x1 x2) == 0) = false := hb27
  refine zzq (zzn ?_)
  refine sq9 ?_
  refine zzg 23 (.v (r12.v)) ty26 zzd ?_
  refine zzg 24 (.v (r18.v)) ty26 zzd ?_
  refine zzf 25 70 [r12.v, r18.v] ?_
  intro w42 u42 e42 d42
  have k49 := k_ivMake d42 (h13.ext (e17.trans (g21.ext.trans (e23.trans (g25.ext.trans e42))))).raw (h19.ext (e23.trans (g25.ext.trans e42))).raw (by omega)
  with_reducible refine Post.mono k49 ?_
  rintro _ u47 g48 ⟨r43, r45, rfl, h44, h46⟩
  refine zzh ⟨28, r43.cs ++ r45.cs⟩ ty28 ?_
  refine zzb 26 [(2, .adr 2 0)] [(2, ⟨28, r43.cs ++ r45.cs⟩)] ?_
  refine zzm (ret0 [.agg #[.bool r43.s, .slice r43.m.a r43.m.n r43.m.c, .slice r43.d.a r43.d.n r43.d.c, .bool r45.s, .slice r45.m.a r45.m.n r45.m.c, .slice r45.d.a r45.d.n r45.d.c]] ⟨zzp ty28 zzd, trivial⟩ fun u50 e51 => ?_)
  refine ⟨r43, r45, rfl, RatN.more (K := (K + K)) ?_ (by omega), RatN.more (K := (K + K)) ?_ (by omega)⟩
  ·rw [if_neg (by simpa using hb27)]
   exact (h44.ext e51)
  ·exact (h46.ext e51)
theorem hull_ord (a b c d : Rat) : Nt.lo (Nt.lo (Nt.lo a b) (Nt.lo c d)) (Nt.hi (Nt.hi a b) (Nt.hi c d)) = Nt.lo (Nt.lo a b) (Nt.lo c d) ∧ Nt.hi (Nt.lo (Nt.lo a b) (Nt.lo c d)) (Nt.hi (Nt.hi a b) (Nt.hi c d)) = Nt.hi (Nt.hi a b) (Nt.hi c d) := by
 apply Nt.lo_of_le
 unfold Nt.lo Nt.hi
 grind
theorem k_ivHull {u w : World} {a1 a2 : RL} {x1 x2 : Rat} {b1 b2 : RL} {y1 y2 : Rat} {K L : Nat} (d : Dat u w) (ha1 : RatV u a1 x1 K) (ha2 : RatV u a2 x2 K) (hb1 : RatV u b1 y1 L) (hb2 : RatV u b2 y2 L) (hK : K ≤ 100000000) (hL : L ≤ 100000000) : Calls Tryz.prog 79 #[IV a1 a2, IV b1 b2] w (Post u w fun v u' => ∃ p q : RL, v = IV p q ∧ RatN u' p (Nt.lo (Nt.lo x1 x2) (Nt.lo y1 y2)) (max K L) ∧ RatN u' q (Nt.hi (Nt.hi x1 x2) (Nt.hi y1 y2)) (max K L)) := by
 refine zzk (args := [.agg #[.bool a1.s, .slice a1.m.a a1.m.n a1.m.c, .slice a1.d.a a1.d.n a1.d.c, .bool a2.s, .slice a2.m.a a2.m.n a2.m.c, .slice a2.d.a a2.d.n a2.d.c], .agg #[.bool b1.s, .slice b1.m.a b1.m.n b1.m.c, .slice b1.d.a b1.d.n b1.d.c, .bool b2.s, .slice b2.m.a b2.m.n b2.m.c, .slice b2.d.a b2.d.n b2.d.c]]) Tryz.func79 rfl Tryz.ntmps79 (rs := [.cell 4 28]) Tryz.results79 (le_b rfl) (le_b rfl) d ?_
 refine sq9 ?_
 refine zzi 2 ⟨28, a1.cs ++ a2.cs⟩ ?_
 refine zzi 3 ⟨28, b1.cs ++ b2.cs⟩ ?_
 refine zzi 4 ⟨28, [.bool false, .slice none 0 0, .slice none 0 0, .bool false, .slice none 0 0, .slice none 0 0]⟩ ?_
 refine zzb 26 [(2, .adr 2 0), (3, .adr 3 0), (4, .adr 4 0)] [(2, ⟨28, a1.cs ++ a2.cs⟩), (3, ⟨28, b1.cs ++ b2.cs⟩), (4, ⟨28, [.bool false, .slice none 0 0, .slice none 0 0, .bool false, .slice none 0 0, .slice none 0 0]⟩)] ?_
 refine sq9 ?_
 refine zzg 10 (.v (.agg #[.bool a1.s, a1.m.v, a1.d.v, .bool a2.s, a2.m.v, a2.d.v])) ty28 zzd ?_
 refine zzf 11 103 [.agg #[.bool a1.s, a1.m.v, a1.d.v, .bool a2.s, a2.m.v, a2.d.v]] ?_
 intro w11 u11 e11 d11
 have k18 := k_ends d11 (ha1.ext e11) (ha2.ext e11) (by omega)
 with_reducible refine Post.mono k18 ?_
 rintro _ u16 g17 ⟨r12, r14, rfl, h13, h15⟩
 refine zza 9 (.v (.tuple #[r12.v, r14.v])) ?_
 refine zza 12 (.v (r12.v)) ?_
 refine zza 13 (.v (r14.v)) ?_
 refine zzi 5 ⟨26, [.bool false, .slice none 0 0, .slice none 0 0]⟩ ?_
 refine zzi 6 ⟨26, [.bool false, .slice none 0 0, .slice none 0 0]⟩ ?_
 refine zzh ⟨26, r12.cs⟩ ty26 ?_
 refine zzh ⟨26, r14.cs⟩ ty26 ?_
 refine zzb 26 [(3, .adr 3 0), (4, .adr 4 0), (5, .adr 5 0), (6, .adr 6 0)] [(3, ⟨28, b1.cs ++ b2.cs⟩), (4, ⟨28, [.bool false, .slice none 0 0, .slice none 0 0, .bool false, .slice none 0 0, .slice none 0 0]⟩), (5, ⟨26, r12.cs⟩), (6, ⟨26, r14.cs⟩)] ?_
 refine sq9 ?_
 refine zzg 15 (.v (.agg #[.bool b1.s, b1.m.v, b1.d.v, .bool b2.s, b2.m.v, b2.d.v])) ty28 zzd ?_
 refine zzf 16 103 [.agg #[.bool b1.s, b1.m.v, b1.d.v, .bool b2.s, b2.m.v, b2.d.v]] ?_
 intro w19 u19 e19 d19
 have k26 := k_ends d19 (hb1.ext (e11.trans (g17.ext.trans e19))) (hb2.ext (e11.trans (g17.ext.trans e19))) (by omega)
 with_reducible refine Post.mono k26 ?_
 rintro _ u24 g25 ⟨r20, r22, rfl, h21, h23⟩
 refine zza 14 (.v (.tuple #[r20.v, r22.v])) ?_
 refine zza 17 (.v (r20.v)) ?_
 refine zza 18 (.v (r22.v)) ?_
 refine zzi 7 ⟨26, [.bool false, .slice none 0 0, .slice none 0 0]⟩ ?_
 refine zzi 8 ⟨26, [.bool false, .slice none 0 0, .slice none 0 0]⟩ ?_
 refine zzh ⟨26, r20.cs⟩ ty26 ?_
 refine zzh ⟨26, r22.cs⟩ ty26 ?_
 refine zzb 26 [(4, .adr 4 0), (5, .adr 5 0), (6, .adr 6 0), (7, .adr 7 0), (8, .adr 8 0)] [(4, ⟨28, [.bool false, .slice none 0 0, .slice none 0 0, .bool false, .slice none 0 0, .slice none 0 0]⟩), (5, ⟨26, r12.cs⟩), (6, ⟨26, r14.cs⟩), (7, ⟨26, r20.cs⟩), (8, ⟨26, r22.cs⟩)] ?_
 refine zzc ?_
 refine zzx [0, 0, 3, 0, 0, 31, 63, 127] [(0, []), (1, []), (3, []), (4, []), (2, []), (5, []), (6, []), (7, [])] (by kernel_rfl) (by kernel_rfl) ?_
 refine zzg 19 (.v (r12.v)) ty26 zzd ?_
 refine zzg 20 (.v (r20.v)) ty26 zzd ?_
 refine zzg 22 (.v (r14.v)) ty26 zzd ?_
 refine zzg 23 (.v (r22.v)) ty26 zzd ?_
 refine zzf 21 128 [r12.v, r20.v] ?_
 intro w27 u27 e27 d27
 have k32 := k_lesserV d27 ((h13.ext (e19.trans (g25.ext.trans e27))).more (Nat.le_max_left K L)) ((h21.ext e27).more (Nat.le_max_right K L)) (by omega)
 with_reducible refine Post.mono k32 ?_
 rintro _ u30 g31 ⟨r28, rfl, h29⟩
 refine zzf 24 113 [r14.v, r22.v] ?_
 intro w33 u33 e33 d33
 have k38 := k_greaterV d33 ((h15.ext (e19.trans (g25.ext.trans (e27.trans (g31.ext.trans e33))))).more (Nat.le_max_left K L)) ((h23.ext (e27.trans (g31.ext.trans e33))).more (Nat.le_max_right K L)) (by omega)
 with_reducible refine Post.mono k38 ?_
 rintro _ u36 g37 ⟨r34, rfl, h35⟩
 refine zzf 25 70 [r28.v, r34.v] ?_
 intro w39 u39 e39 d39
 have k46 := k_ivMake d39 (h29.ext (e33.trans (g37.ext.trans e39))) (h35.ext e39) (by omega)
 with_reducible refine Post.mono k46 ?_
 rintro _ u44 g45 ⟨r40, r42, rfl, h41, h43⟩
 refine zzh ⟨28, r40.cs ++ r42.cs⟩ ty28 ?_
 refine zzb 26 [(4, .adr 4 0)] [(4, ⟨28, r40.cs ++ r42.cs⟩)] ?_
 refine zzm (ret0 [.agg #[.bool r40.s, .slice r40.m.a r40.m.n r40.m.c, .slice r40.d.a r40.d.n r40.d.c, .bool r42.s, .slice r42.m.a r42.m.n r42.m.c, .slice r42.d.a r42.d.n r42.d.c]] ⟨zzp ty28 zzd, trivial⟩ fun u47 e48 => ?_)
 refine ⟨r40, r42, rfl, RatN.more (K := (max K L)) ?_ (by omega), RatN.more (K := (max K L)) ?_ (by omega)⟩
 ·rw [← (hull_ord x1 x2 y1 y2).1]
  exact (h41.ext e48)
 ·rw [← (hull_ord x1 x2 y1 y2).2]
  exact (h43.ext e48)
def MeetR (l h : Rat) (K : Nat) (v : Value) (u : World) : Prop := (h < l ∧ v = .tuple #[.agg #[.bool false, .slice none 0 0, .slice none 0 0, .bool false, .slice none 0 0, .slice none 0 0], .bool false]) ∨ (l ≤ h ∧ ∃ p q : RL, v = .tuple #[IV p q, .bool true] ∧ RatN u p l K ∧ RatN u q h K)
theorem k_ivMeet {u w : World} {a1 a2 : RL} {x1 x2 : Rat} {b1 b2 : RL} {y1 y2 : Rat} {K L : Nat} (d : Dat u w) (ha1 : RatV u a1 x1 K) (ha2 : RatV u a2 x2 K) (hb1 : RatV u b1 y1 L) (hb2 : RatV u b2 y2 L) (hK : K ≤ 100000000) (hL : L ≤ 100000000) : Calls Tryz.prog 57 #[IV a1 a2, IV b1 b2] w (Post u w fun v u' => MeetR (Nt.hi (Nt.lo x1 x2) (Nt.lo y1 y2)) (Nt.lo (Nt.hi x1 x2) (Nt.hi y1 y2)) (max K L) v u') := by
 refine zzk (args := [.agg #[.bool a1.s, .slice a1.m.a a1.m.n a1.m.c, .slice a1.d.a a1.d.n a1.d.c, .bool a2.s, .slice a2.m.a a2.m.n a2.m.c, .slice a2.d.a a2.d.n a2.d.c], .agg #[.bool b1.s, .slice b1.m.a b1.m.n b1.m.c, .slice b1.d.a b1.d.n b1.d.c, .bool b2.s, .slice b2.m.a b2.m.n b2.m.c, .slice b2.d.a b2.d.n b2.d.c]]) Tryz.func57 rfl Tryz.ntmps57 (rs := [.cell 4 28, .tmp 5]) Tryz.results57 (le_b rfl) (le_b rfl) d ?_
 refine sq9 ?_
 refine zzi 2 ⟨28, a1.cs ++ a2.cs⟩ ?_
 refine zzi 3 ⟨28, b1.cs ++ b2.cs⟩ ?_
 refine zzi 4 ⟨28, [.bool false, .slice none 0 0, .slice none 0 0, .bool false, .slice none 0 0, .slice none 0 0]⟩ ?_
 refine zza 5 (.v (.bool false)) ?_
 refine zzb 36 [(2, .adr 2 0), (3, .adr 3 0), (4, .adr 4 0)] [(2, ⟨28, a1.cs ++ a2.cs⟩), (3, ⟨28, b1.cs ++ b2.cs⟩), (4, ⟨28, [.bool false, .slice none 0 0, .slice none 0 0, .bool false, .slice none 0 0, .slice none 0 0]⟩)] ?_
 refine sq9 ?_
 refine zzg 13 (.v (.agg #[.bool a1.s, a1.m.v, a1.d.v, .bool a2.s, a2.m.v, a2.d.v])) ty28 zzd ?_
 refine zzf 14 103 [.agg #[.bool a1.s, a1.m.v, a1.d.v, .bool a2.s, a2.m.v, a2.d.v]] ?_
 intro w11 u11 e11 d11
 have k18 := k_ends d11 (ha1.ext e11) (ha2.ext e11) (by omega)
 with_reducible refine Post.mono k18 ?_
 rintro _ u16 g17 ⟨r12, r14, rfl, h13, h15⟩
 refine zza 12 (.v (.tuple #[r12.v, r14.v])) ?_
 refine zza 15 (.v (r12.v)) ?_
 refine zza 16 (.v (r14.v)) ?_
 refine zzi 6 ⟨26, [.bool false, .slice none 0 0, .slice none 0 0]⟩ ?_
 refine zzi 7 ⟨26, [.bool false, .slice none 0 0, .slice none 0 0]⟩ ?_
 refine zzh ⟨26, r12.cs⟩ ty26 ?_
 refine zzh ⟨26, r14.cs⟩ ty26 ?_
 refine zzb 36 [(3, .adr 3 0), (4, .adr 4 0), (6, .adr 6 0), (7, .adr 7 0)] [(3, ⟨28, b1.cs ++ b2.cs⟩), (4, ⟨28, [.bool false, .slice none 0 0, .slice none 0 0, .bool false, .slice none 0 0, .slice none 0 0]⟩), (6, ⟨26, r12.cs⟩), (7, ⟨26, r14.cs⟩)] ?_
 refine sq9 ?_
 refine zzg 18 (.v (.agg #[.bool b1.s, b1.m.v, b1.d.v, .bool b2.s, b2.m.v, b2.d.v])) ty28 zzd ?_
 refine zzf 19 103 [.agg #[.bool b1.s, b1.m.v, b1.d.v, .bool b2.s, b2.m.v, b2.d.v]] ?_
 intro w19 u19 e19 d19
 have k26 := k_ends d19 (hb1.ext (e11.trans (g17.ext.trans e19))) (hb2.ext (e11.trans (g17.ext.trans e19))) (by omega)
 with_reducible refine Post.mono k26 ?_
 rintro _ u24 g25 ⟨r20, r22, rfl, h21, h23⟩
 refine zza 17 (.v (.tuple #[r20.v, r22.v])) ?_
 refine zza 20 (.v (r20.v)) ?_
 refine zza 21 (.v (r22.v)) ?_
 refine zzi 8 ⟨26, [.bool false, .slice none 0 0, .slice none 0 0]⟩ ?_
 refine zzi 9 ⟨26, [.bool false, .slice none 0 0, .slice none 0 0]⟩ ?_
 refine zzh ⟨26, r20.cs⟩ ty26 ?_
 refine zzh ⟨26, r22.cs⟩ ty26 ?_
 refine zzb 36 [(4, .adr 4 0), (6, .adr 6 0), (7, .adr 7 0), (8, .adr 8 0), (9, .adr 9 0)] [(4, ⟨28, [.bool false, .slice none 0 0, .slice none 0 0, .bool false, .slice none 0 0, .slice none 0 0]⟩), (6, ⟨26, r12.cs⟩), (7, ⟨26, r14.cs⟩), (8, ⟨26, r20.cs⟩), (9, ⟨26, r22.cs⟩)] ?_
 refine zzc ?_
 refine zzx [0, 0, 3, 0, 0, 31, 0, 0, 255, 511] [(0, []), (1, []), (3, []), (4, []), (6, []), (7, []), (2, []), (5, []), (8, []), (9, [])] (by kernel_rfl) (by kernel_rfl) ?_
 refine zzg 22 (.v (r12.v)) ty26 zzd ?_
 refine zzg 23 (.v (r20.v)) ty26 zzd ?_
 refine zzg 25 (.v (r14.v)) ty26 zzd ?_
 refine zzg 26 (.v (r22.v)) ty26 zzd ?_
 refine zzi 10 ⟨26, [.bool false, .slice none 0 0, .slice none 0 0]⟩ ?_
 refine zzi 11 ⟨26, [.bool false, .slice none 0 0, .slice none 0 0]⟩ ?_
 refine zzf 24 113 [r12.v, r20.v] ?_
 intro w27 u27 e27 d27
 have k32 := k_greaterV d27 ((h13.ext (e19.trans (g25.ext.trans e27))).more (Nat.le_max_left K L)) ((h21.ext e27).more (Nat.le_max_right K L)) (by omega)
 with_reducible refine Post.mono k32 ?_
 rintro _ u30 g31 ⟨r28, rfl, h29⟩
 refine zzf 27 128 [r14.v, r22.v] ?_
 intro w33 u33 e33 d33
 have k38 := k_lesserV d33 ((h15.ext (e19.trans (g25.ext.trans (e27.trans (g31.ext.trans e33))))).more (Nat.le_max_left K L)) ((h23.ext (e27.trans (g31.ext.trans e33))).more (Nat.le_max_right K L)) (by omega)
 with_reducible refine Post.mono k38 ?_
 rintro _ u36 g37 ⟨r34, rfl, h35⟩
 refine zzh ⟨26, r28.cs⟩ ty26 ?_
 refine zzh ⟨26, r34.cs⟩ ty26 ?_
 refine zzb 36 [(4, .adr 4 0), (10, .adr 10 0), (11, .adr 11 0)] [(4, ⟨28, [.bool false, .slice none 0 0, .slice none 0 0, .bool false, .slice none 0 0, .slice none 0 0]⟩), (10, ⟨26, r28.cs⟩), (11, ⟨26, r34.cs⟩)] ?_
 refine zzc ?_
 refine sq9 ?_
 refine zzg 28 (.v (r28.v)) ty26 zzd ?_
 refine zzg 29 (.v (r34.v)) ty26 zzd ?_
 refine zzf 30 114 [r28.v, r34.v] ?_
 intro w39 u39 e39 d39
 have k42 := k_ratCompare d39 (h29.ext (e33.trans (g37.ext.trans e39))) (h35.ext e39) (by omega) (by omega)
 with_reducible refine Post.mono k42 ?_
 rintro _ u40 g41 rfl
 refine zza 31 (.v (.bool (decide ((0 : Int) < (Nt.cmpQ (Nt.hi (Nt.lo x1 x2) (Nt.lo y1 y2)) (Nt.lo (Nt.hi x1 x2) (Nt.hi y1 y2))))))) ?_
 refine zzb 36 [(4, .adr 4 0), (10, .adr 10 0), (11, .adr 11 0), (31, .v (.bool (decide ((0 : Int) < (Nt.cmpQ (Nt.hi (Nt.lo x1 x2) (Nt.lo y1 y2)) (Nt.lo (Nt.hi x1 x2) (Nt.hi y1 y2)))))))] [(4, ⟨28, [.bool false, .slice none 0 0, .slice none 0 0, .bool false, .slice none 0 0, .slice none 0 0]⟩), (10, ⟨26, r28.cs⟩), (11, ⟨26, r34.cs⟩)] ?_
 refine zzs (b := decide ((0 : Int) < (Nt.cmpQ (Nt.hi (Nt.lo x1 x2) (Nt.lo y1 y2)) (Nt.lo (Nt.hi x1 x2) (Nt.hi y1 y2))))) (by kernel_rfl) (fun hb43 => ?_) (fun hb43 => ?_)
 ·replace hb43 : (decide ((0 : Int) < (Nt.cmpQ (Nt.hi (Nt.lo x1 x2) (Nt.lo y1 y2)) (Nt.lo (Nt.hi x1 x2) (Nt.hi y1 y2))))) = true := hb43
  have qhb43 := of_decide_eq_true hb43
  refine sq9 ?_
  refine zza 32 (.v (.agg #[.bool false, .slice none 0 0, .slice none 0 0, .bool false, .slice none 0 0, .slice none 0 0])) ?_
  refine zzh ⟨28, [.bool false, .slice none 0 0, .slice none 0 0, .bool false, .slice none 0 0, .slice none 0 0]⟩ ty28 ?_
  refine zza 5 (.v (.bool false)) ?_
  refine zzb 36 [(4, .adr 4 0), (5, .v (.bool false))] [(4, ⟨28, [.bool false, .slice none 0 0, .slice none 0 0, .bool false, .slice none 0 0, .slice none 0 0]⟩)] ?_
  refine zzm (zzu (ret0 [.agg #[.bool false, .slice none 0 0, .slice none 0 0, .bool false, .slice none 0 0, .slice none 0 0], .bool false] ⟨zzp ty28 zzd, zzo, trivial⟩ fun u44 e45 => ?_))
  rw [Nt.cmpQ_gt] at hb43
  exact .inl ⟨of_decide_eq_true hb43, rfl⟩
 ·replace hb43 : (decide ((0 : Int) < (Nt.cmpQ (Nt.hi (Nt.lo x1 x2) (Nt.lo y1 y2)) (Nt.lo (Nt.hi x1 x2) (Nt.hi y1 y2))))) = false := hb43
  have qhb43 := of_decide_eq_false hb43
  refine zzq (zzn ?_)
  refine sq9 ?_
  refine zzg 33 (.v (r28.v)) ty26 zzd ?_
  refine zzg 34 (.v (r34.v)) ty26 zzd ?_
  refine zzf 35 70 [r28.v, r34.v] ?_
  intro w46 u46 e46 d46
  have k53 := k_ivMake d46 (h29.ext (e33.trans (g37.ext.trans (e39.trans (g41.ext.trans e46))))) (h35.ext (e39.trans (g41.ext.trans e46))) (by omega)
  with_reducible refine Post.mono k53 ?_
  rintro _ u51 g52 ⟨r47, r49, rfl, h48, h50⟩
  refine zzh ⟨28, r47.cs ++ r49.cs⟩ ty28 ?_
  refine zza 5 (.v (.bool true)) ?_
  refine zzb 36 [(4, .adr 4 0), (5, .v (.bool true))] [(4, ⟨28, r47.cs ++ r49.cs⟩)] ?_
  refine zzm (ret0 [.agg #[.bool r47.s, .slice r47.m.a r47.m.n r47.m.c, .slice r47.d.a r47.d.n r47.d.c, .bool r49.s, .slice r49.m.a r49.m.n r49.m.c, .slice r49.d.a r49.d.n r49.d.c], .bool true] ⟨zzp ty28 zzd, zzo, trivial⟩ fun u54 e55 => ?_)
  rw [Nt.cmpQ_gt] at hb43
  have hle : (Nt.hi (Nt.lo x1 x2) (Nt.lo y1 y2)) ≤ (Nt.lo (Nt.hi x1 x2) (Nt.hi y1 y2)) := by have h9 := of_decide_eq_false hb43; grind
  have h8 := Nt.lo_of_le hle
  refine .inr ⟨hle, r47, r49, rfl, ?_, ?_⟩
  ·have h7 := (h48.ext e55)
   rw [h8.1] at h7
   exact h7
  ·have h7 := (h50.ext e55)
   rw [h8.2] at h7
   exact h7
theorem k_ratDiv1 {u w : World} {r1 r2 : RL} {x y : Rat} {K L : Nat} (d : Dat u w) (hr1 : RatV u r1 x K) (hr2 : RatV u r2 y L) (hy : y ≠ 0) (hK : K ≤ 200000000) (hL : L ≤ 200000000) : Calls Tryz.prog 99 #[r1.v, r2.v] w (Post u w fun v u' => ∃ r : RL, v = .tuple #[r.v, .int .i64 0] ∧ RatN u' r (x / y) (K + L)) :=
 Post.mono (k_ratDiv d hr1 hr2 hK hL) fun v u' _ h => h.elim (fun h => absurd h.2 hy) (fun h => h.2)
theorem sgI_ne {a b : Rat} (h : (Nt.sgI a b == 0) = false) : a ≠ 0 ∧ b ≠ 0 := by
 unfold Nt.sgI Nt.lo Nt.hi at h
 grind
def IDivR (x1 x2 y1 y2 : Rat) (K : Nat) (v : Value) (u : World) : Prop := (Nt.sgI y1 y2 = 0 ∧ v = .tuple #[.agg #[.bool false, .slice none 0 0, .slice none 0 0, .bool false, .slice none 0 0, .slice none 0 0], .int .i64 3]) ∨ (Nt.sgI y1 y2 ≠ 0 ∧ ∃ p q : RL, v = .tuple #[IV p q, .int .i64 0] ∧ RatN u p (Nt.lo4 (x1 / y1) (x1 / y2) (x2 / y1) (x2 / y2)) K ∧ RatN u q (Nt.hi4 (x1 / y1) (x1 / y2) (x2 / y1) (x2 / y2)) K)
set_option maxHeartbeats 2000000 in
theorem k_ivDiv {u w : World} {a1 a2 : RL} {x1 x2 : Rat} {b1 b2 : RL} {y1 y2 : Rat} {K L : Nat} (d : Dat u w) (ha1 : RatV u a1 x1 K) (ha2 : RatV u a2 x2 K) (hb1 : RatV u b1 y1 L) (hb2 : RatV u b2 y2 L) (hK : K ≤ 100000000) (hL : L ≤ 100000000) : Calls Tryz.prog 14 #[IV a1 a2, IV b1 b2] w (Post u w fun v u' => IDivR x1 x2 y1 y2 (K + L) v u') := by
 refine zzk (args := [.agg #[.bool a1.s, .slice a1.m.a a1.m.n a1.m.c, .slice a1.d.a a1.d.n a1.d.c, .bool a2.s, .slice a2.m.a a2.m.n a2.m.c, .slice a2.d.a a2.d.n a2.d.c], .agg #[.bool b1.s, .slice b1.m.a b1.m.n b1.m.c, .slice b1.d.a b1.d.n b1.d.c, .bool b2.s, .slice b2.m.a b2.m.n b2.m.c, .slice b2.d.a b2.d.n b2.d.c]]) Tryz.func14 rfl Tryz.ntmps14 (rs := [.cell 4 28, .tmp 5]) Tryz.results14 (le_b rfl) (le_b rfl) d ?_
 refine sq9 ?_
 refine zzi 2 ⟨28, a1.cs ++ a2.cs⟩ ?_
 refine zzi 3 ⟨28, b1.cs ++ b2.cs⟩ ?_
 refine zzi 4 ⟨28, [.bool false, .slice none 0 0, .slice none 0 0, .bool false, .slice none 0 0, .slice none 0 0]⟩ ?_
 refine zza 5 (.v (.int .i64 0)) ?_
 refine zzb 48 [(2, .adr 2 0), (3, .adr 3 0), (4, .adr 4 0)] [(2, ⟨28, a1.cs ++ a2.cs⟩), (3, ⟨28, b1.cs ++ b2.cs⟩), (4, ⟨28, [.bool false, .slice none 0 0, .slice none 0 0, .bool false, .slice none 0 0, .slice none 0 0]⟩)] ?_
 refine zzc ?_
 refine sq9 ?_
 refine zzg 11 (.v (.agg #[.bool b1.s, b1.m.v, b1.d.v, .bool b2.s, b2.m.v, b2.d.v])) ty28 zzd ?_
 refine zzf 12 64 [.agg #[.bool b1.s, b1.m.v, b1.d.v, .bool b2.s, b2.m.v, b2.d.v]] ?_
 intro w11 u11 e11 d11
 have k14 := k_ivSign d11 (hb1.ext e11) (hb2.ext e11) (by omega)
 with_reducible refine Post.mono k14 ?_
 rintro _ u12 g13 rfl
 refine zza 13 (.v (.bool ((Nt.sgI y1 y2) == 0))) ?_
 refine zzb 48 [(2, .adr 2 0), (3, .adr 3 0), (4, .adr 4 0), (13, .v (.bool ((Nt.sgI y1 y2) == 0)))] [(2, ⟨28, a1.cs ++ a2.cs⟩), (3, ⟨28, b1.cs ++ b2.cs⟩), (4, ⟨28, [.bool false, .slice none 0 0, .slice none 0 0, .bool false, .slice none 0 0, .slice none 0 0]⟩)] ?_
 refine zzs (b := (Nt.sgI y1 y2) == 0) (by kernel_rfl) (fun hb15 => ?_) (fun hb15 => ?_)
 ·replace hb15 : ((Nt.sgI y1 y2) == 0) = true := hb15
  refine sq9 ?_
  refine zza 14 (.v (.agg #[.bool false, .slice none 0 0, .slice none 0 0, .bool false, .slice none 0 0, .slice none 0 0])) ?_
  refine zzh ⟨28, [.bool false, .slice none 0 0, .slice none 0 0, .bool false, .slice none 0 0, .slice none 0 0]⟩ ty28 ?_
  refine zza 5 (.v (.int .i64 3)) ?_
  refine zzb 48 [(4, .adr 4 0), (5, .v (.int .i64 3))] [(4, ⟨28, [.bool false, .slice none 0 0, .slice none 0 0, .bool false, .slice none 0 0, .slice none 0 0]⟩)] ?_
  refine zzm (zzu (ret0 [.agg #[.bool false, .slice none 0 0, .slice none 0 0, .bool false, .slice none 0 0, .slice none 0 0], .int .i64 3] ⟨zzp ty28 zzd, zzo, trivial⟩ fun u16 e17 => ?_))
  exact .inl ⟨by simpa using hb15, rfl⟩
 ·replace hb15 : ((Nt.sgI y1 y2) == 0) = false := hb15
  refine zzq (zzn ?_)
  refine sq9 ?_
  refine zzi 6 ⟨81, [.bool false, .slice none 0 0, .slice none 0 0, .bool false, .slice none 0 0, .slice none 0 0, .bool false, .slice none 0 0, .slice none 0 0, .bool false, .slice none 0 0, .slice none 0 0]⟩ ?_
  refine zzb 48 [(2, .adr 2 0), (3, .adr 3 0), (4, .adr 4 0), (6, .adr 6 0)] [(2, ⟨28, a1.cs ++ a2.cs⟩), (3, ⟨28, b1.cs ++ b2.cs⟩), (4, ⟨28, [.bool false, .slice none 0 0, .slice none 0 0, .bool false, .slice none 0 0, .slice none 0 0]⟩), (6, ⟨81, [.bool false, .slice none 0 0, .slice none 0 0, .bool false, .slice none 0 0, .slice none 0 0, .bool false, .slice none 0 0, .slice none 0 0, .bool false, .slice none 0 0, .slice none 0 0]⟩)] ?_
  refine zzc ?_
  refine sq9 ?_
  refine zza 15 (.adr 2 0) ?_
  refine zzg 16 (.v (a1.v)) ty26 zzd ?_
  refine zza 17 (.adr 2 3) ?_
  refine zzg 18 (.v (a2.v)) ty26 zzd ?_
  refine zza 19 (.v (.agg #[.bool a1.s, a1.m.v, a1.d.v, .bool a2.s, a2.m.v, a2.d.v])) ?_
  refine zza 20 (.v (.int .i64 0)) ?_
  refine zzb 48 [(3, .adr 3 0), (4, .adr 4 0), (6, .adr 6 0), (19, .v (.agg #[.bool a1.s, a1.m.v, a1.d.v, .bool a2.s, a2.m.v, a2.d.v])), (20, .v (.int .i64 0))] [(3, ⟨28, b1.cs ++ b2.cs⟩), (4, ⟨28, [.bool false, .slice none 0 0, .slice none 0 0, .bool false, .slice none 0 0, .slice none 0 0]⟩), (6, ⟨81, [.bool false, .slice none 0 0, .slice none 0 0, .bool false, .slice none 0 0, .slice none 0 0, .bool false, .slice none 0 0, .slice none 0 0, .bool false, .slice none 0 0, .slice none 0 0]⟩)] ?_
  refine zzr ?_
  refine sw_rounds 2 ?_
  refine sq9 ?_
  refine zza 21 (.v (.bool true)) ?_
  refine zzb 48 [(3, .adr 3 0), (4, .adr 4 0), (6, .adr 6 0), (19, .v (.agg #[.bool a1.s, a1.m.v, a1.d.v, .bool a2.s, a2.m.v, a2.d.v])), (20, .v (.int .i64 0)), (21, .v (.bool true))] [(3, ⟨28, b1.cs ++ b2.cs⟩), (4, ⟨28, [.bool false, .slice none 0 0, .slice none 0 0, .bool false, .slice none 0 0, .slice none 0 0]⟩), (6, ⟨81, [.bool false, .slice none 0 0, .slice none 0 0, .bool false, .slice none 0 0, .slice none 0 0, .bool false, .slice none 0 0, .slice none 0 0, .bool false, .slice none 0 0, .slice none 0 0]⟩)] ?_
  refine zzc ?_
  refine zym (by kernel_rfl) ?_
  refine zzq (zzn ?_)
  refine zzc ?_
  refine zzr ?_
  refine sq9 ?_
  refine zza 22 (.v (.int .i64 0)) ?_
  refine zza 23 (.v (a1.v)) ?_
  refine zzi 8 ⟨26, [.bool false, .slice none 0 0, .slice none 0 0]⟩ ?_
  refine zza 7 (.v (.int .i64 0)) ?_
  refine zzh ⟨26, a1.cs⟩ ty26 ?_
  refine zzb 48 [(3, .adr 3 0), (4, .adr 4 0), (6, .adr 6 0), (7, .v (.int .i64 0)), (8, .adr 8 0), (19, .v (.agg #[.bool a1.s, a1.m.v, a1.d.v, .bool a2.s, a2.m.v, a2.d.v])), (20, .v (.int .i64 0))] [(3, ⟨28, b1.cs ++ b2.cs⟩), (4, ⟨28, [.bool false, .slice none 0 0, .slice none 0 0, .bool false, .slice none 0 0, .slice none 0 0]⟩), (6, ⟨81, [.bool false, .slice none 0 0, .slice none 0 0, .bool false, .slice none 0 0, .slice none 0 0, .bool false, .slice none 0 0, .slice none 0 0, .bool false, .slice none 0 0, .slice none 0 0]⟩), (8, ⟨26, a1.cs⟩)] ?_
  refine sq9 ?_
  refine zza 24 (.adr 3 0) ?_
  refine zzg 25 (.v (b1.v)) ty26 zzd ?_
  refine zza 26 (.adr 3 3) ?_
  refine zzg 27 (.v (b2.v)) ty26 zzd ?_
  refine zza 28 (.v (.agg #[.bool b1.s, b1.m.v, b1.d.v, .bool b2.s, b2.m.v, b2.d.v])) ?_
  refine zza 29 (.v (.int .i64 0)) ?_
  refine zzb 48 [(3, .adr 3 0), (4, .adr 4 0), (6, .adr 6 0), (7, .v (.int .i64 0)), (8, .adr 8 0), (19, .v (.agg #[.bool a1.s, a1.m.v, a1.d.v, .bool a2.s, a2.m.v, a2.d.v])), (20, .v (.int .i64 0)), (28, .v (.agg #[.bool b1.s, b1.m.v, b1.d.v, .bool b2.s, b2.m.v, b2.d.v])), (29, .v (.int .i64 0))] [(3, ⟨28, b1.cs ++ b2.cs⟩), (4, ⟨28, [.bool false, .slice none 0 0, .slice none 0 0, .bool false, .slice none 0 0, .slice none 0 0]⟩), (6, ⟨81, [.bool false, .slice none 0 0, .slice none 0 0, .bool false, .slice none 0 0, .slice none 0 0, .bool false, .slice none 0 0, .slice none 0 0, .bool false, .slice none 0 0, .slice none 0 0]⟩), (8, ⟨26, a1.cs⟩)] ?_
  refine zzr ?_
  refine sw_rounds 2 ?_
  refine sq9 ?_
  refine zza 30 (.v (.bool true)) ?_
  refine zzb 48 [(3, .adr 3 0), (4, .adr 4 0), (6, .adr 6 0), (7, .v (.int .i64 0)), (8, .adr 8 0), (19, .v (.agg #[.bool a1.s, a1.m.v, a1.d.v, .bool a2.s, a2.m.v, a2.d.v])), (20, .v (.int .i64 0)), (28, .v (.agg #[.bool b1.s, b1.m.v, b1.d.v, .bool b2.s, b2.m.v, b2.d.v])), (29, .v (.int .i64 0)), (30, .v (.bool true))] [(3, ⟨28, b1.cs ++ b2.cs⟩), (4, ⟨28, [.bool false, .slice none 0 0, .slice none 0 0, .bool false, .slice none 0 0, .slice none 0 0]⟩), (6, ⟨81, [.bool false, .slice none 0 0, .slice none 0 0, .bool false, .slice none 0 0, .slice none 0 0, .bool false, .slice none 0 0, .slice none 0 0, .bool false, .slice none 0 0, .slice none 0 0]⟩), (8, ⟨26, a1.cs⟩)] ?_
  refine zzc ?_
  refine zym (by kernel_rfl) ?_
  refine zzq (zzn ?_)
  refine zzc ?_
  refine zzr ?_
  refine sq9 ?_
  refine zza 31 (.v (.int .i64 0)) ?_
  refine zza 32 (.v (b1.v)) ?_
  refine zzi 10 ⟨26, [.bool false, .slice none 0 0, .slice none 0 0]⟩ ?_
  refine zza 9 (.v (.int .i64 0)) ?_
  refine zzh ⟨26, b1.cs⟩ ty26 ?_
  refine zzb 48 [(3, .adr 3 0), (4, .adr 4 0), (6, .adr 6 0), (7, .v (.int .i64 0)), (8, .adr 8 0), (9, .v (.int .i64 0)), (10, .adr 10 0), (19, .v (.agg #[.bool a1.s, a1.m.v, a1.d.v, .bool a2.s, a2.m.v, a2.d.v])), (20, .v (.int .i64 0)), (28, .v (.agg #[.bool b1.s, b1.m.v, b1.d.v, .bool b2.s, b2.m.v, b2.d.v])), (29, .v (.int .i64 0))] [(3, ⟨28, b1.cs ++ b2.cs⟩), (4, ⟨28, [.bool false, .slice none 0 0, .slice none 0 0, .bool false, .slice none 0 0, .slice none 0 0]⟩), (6, ⟨81, [.bool false, .slice none 0 0, .slice none 0 0, .bool false, .slice none 0 0, .slice none 0 0, .bool false, .slice none 0 0, .slice none 0 0, .bool false, .slice none 0 0, .slice none 0 0]⟩), (8, ⟨26, a1.cs⟩), (10, ⟨26, b1.cs⟩)] ?_
  refine zze ?_
  refine zza 34 (.v (.int .i64 0)) ?_
  refine zza 35 (.v (.int .i64 0)) ?_
  refine zza 36 (.v (.int .i64 0)) ?_
  refine zza 37 (.v (.int .i64 0)) ?_
  refine zzg 38 (.v (a1.v)) ty26 zzd ?_
  refine zzg 39 (.v (b1.v)) ty26 zzd ?_
  refine zzf 40 99 [a1.v, b1.v] ?_
  intro w18 u18 e18 d18
  have k23 := k_ratDiv1 d18 (ha1.ext (e11.trans (g13.ext.trans e18))) (hb1.ext (e11.trans (g13.ext.trans e18))) (sgI_ne hb15).1 (by omega) (by omega)
  with_reducible refine Post.mono k23 ?_
  rintro _ u21 g22 ⟨r19, rfl, h20⟩
  refine zza 33 (.v (.tuple #[r19.v, .int .i64 0])) ?_
  refine zza 41 (.v (r19.v)) ?_
  refine zza 42 (.v (.int .i64 0)) ?_
  refine zza 43 (.adr 6 0) ?_
  refine zzh ⟨81, r19.cs ++ [.bool false, .slice none 0 0, .slice none 0 0, .bool false, .slice none 0 0, .slice none 0 0, .bool false, .slice none 0 0, .slice none 0 0]⟩ ty26 ?_
  refine zzv ?_
  refine zzn ?_
  refine zze ?_
  refine zza 44 (.v (.int .i64 1)) ?_
  refine zza 29 (.v (.int .i64 1)) ?_
  refine zzv ?_
  refine rn_next ?_
  refine sw_weak (T := St.of 48 [(3, .adr 3 0), (4, .adr 4 0), (6, .adr 6 0), (7, .v (.int .i64 0)), (8, .adr 8 0), (19, .v (.agg #[.bool a1.s, .slice a1.m.a a1.m.n a1.m.c, .slice a1.d.a a1.d.n a1.d.c, .bool a2.s, .slice a2.m.a a2.m.n a2.m.c, .slice a2.d.a a2.d.n a2.d.c])), (20, .v (.int .i64 0)), (28, .v (.agg #[.bool b1.s, .slice b1.m.a b1.m.n b1.m.c, .slice b1.d.a b1.d.n b1.d.c, .bool b2.s, .slice b2.m.a b2.m.n b2.m.c, .slice b2.d.a b2.d.n b2.d.c])), (29, .v (.int .i64 1))] [(3, ⟨28, b1.cs ++ b2.cs⟩), (4, ⟨28, [.bool false, .slice none 0 0, .slice none 0 0, .bool false, .slice none 0 0, .slice none 0 0]⟩), (6, ⟨81, r19.cs ++ [.bool false, .slice none 0 0, .slice none 0 0, .bool false, .slice none 0 0, .slice none 0 0, .bool false, .slice none 0 0, .slice none 0 0]⟩), (8, ⟨26, a1.cs⟩)]) (by exact zzt _ _ _) ?_
  refine sq9 ?_
  refine zza 30 (.v (.bool true)) ?_
  refine zzb 48 [(3, .adr 3 0), (4, .adr 4 0), (6, .adr 6 0), (7, .v (.int .i64 0)), (8, .adr 8 0), (19, .v (.agg #[.bool a1.s, a1.m.v, a1.d.v, .bool a2.s, a2.m.v, a2.d.v])), (20, .v (.int .i64 0)), (28, .v (.agg #[.bool b1.s, b1.m.v, b1.d.v, .bool b2.s, b2.m.v, b2.d.v])), (29, .v (.int .i64 1)), (30, .v (.bool true))] [(3, ⟨28, b1.cs ++ b2.cs⟩), (4, ⟨28, [.bool false, .slice none 0 0, .slice none 0 0, .bool false, .slice none 0 0, .slice none 0 0]⟩), (6, ⟨81, r19.cs ++ [.bool false, .slice none 0 0, .slice none 0 0, .bool false, .slice none 0 0, .slice none 0 0, .bool false, .slice none 0 0, .slice none 0 0]⟩), (8, ⟨26, a1.cs⟩)] ?_
  refine zzc ?_
  refine zym (by kernel_rfl) ?_
  refine zzq (zzn ?_)
  refine zzc ?_
  refine zzr ?_
  refine sq9 ?_
  refine zza 31 (.v (.int .i64 1)) ?_
  refine zza 32 (.v (b2.v)) ?_
  refine zzi 10 ⟨26, [.bool false, .slice none 0 0, .slice none 0 0]⟩ ?_
  refine zza 9 (.v (.int .i64 1)) ?_
  refine zzh ⟨26, b2.cs⟩ ty26 ?_
  refine zzb 48 [(3, .adr 3 0), (4, .adr 4 0), (6, .adr 6 0), (7, .v (.int .i64 0)), (8, .adr 8 0), (9, .v (.int .i64 1)), (10, .adr 10 0), (19, .v (.agg #[.bool a1.s, a1.m.v, a1.d.v, .bool a2.s, a2.m.v, a2.d.v])), (20, .v (.int .i64 0)), (28, .v (.agg #[.bool b1.s, b1.m.v, b1.d.v, .bool b2.s, b2.m.v, b2.d.v])), (29, .v (.int .i64 1))] [(3, ⟨28, b1.cs ++ b2.cs⟩), (4, ⟨28, [.bool false, .slice none 0 0, .slice none 0 0, .bool false, .slice none 0 0, .slice none 0 0]⟩), (6, ⟨81, r19.cs ++ [.bool false, .slice none 0 0, .slice none 0 0, .bool false, .slice none 0 0, .slice none 0 0, .bool false, .slice none 0 0, .slice none 0 0]⟩), (8, ⟨26, a1.cs⟩), (10, ⟨26, b2.cs⟩)] ?_
  refine zze ?_
  refine zza 34 (.v (.int .i64 0)) ?_
  refine zza 35 (.v (.int .i64 0)) ?_
  refine zza 36 (.v (.int .i64 1)) ?_
  refine zza 37 (.v (.int .i64 1)) ?_
  refine zzg 38 (.v (a1.v)) ty26 zzd ?_
  refine zzg 39 (.v (b2.v)) ty26 zzd ?_
  refine zzf 40 99 [a1.v, b2.v] ?_
  intro w24 u24 e24 d24
  have k29 := k_ratDiv1 d24 (ha1.ext (e11.trans (g13.ext.trans (e18.trans (g22.ext.trans e24))))) (hb2.ext (e11.trans (g13.ext.trans (e18.trans (g22.ext.trans e24))))) (sgI_ne hb15).2 (by omega) (by omega)
  with_reducible refine Post.mono k29 ?_
  rintro _ u27 g28 ⟨r25, rfl, h26⟩
  refine zza 33 (.v (.tuple #[r25.v, .int .i64 0])) ?_
  refine zza 41 (.v (r25.v)) ?_
  refine zza 42 (.v (.int .i64 0)) ?_
  refine zza 43 (.adr 6 3) ?_
  refine zzh ⟨81, r19.cs ++ r25.cs ++ [.bool false, .slice none 0 0, .slice none 0 0, .bool false, .slice none 0 0, .slice none 0 0]⟩ ty26 ?_
  refine zzv ?_
  refine zzn ?_
  refine zze ?_
  refine zza 44 (.v (.int .i64 2)) ?_
  refine zza 29 (.v (.int .i64 2)) ?_
  refine zzv ?_
  refine rn_next ?_
  refine sw_weak (T := St.of 48 [(3, .adr 3 0), (4, .adr 4 0), (6, .adr 6 0), (7, .v (.int .i64 0)), (8, .adr 8 0), (19, .v (.agg #[.bool a1.s, .slice a1.m.a a1.m.n a1.m.c, .slice a1.d.a a1.d.n a1.d.c, .bool a2.s, .slice a2.m.a a2.m.n a2.m.c, .slice a2.d.a a2.d.n a2.d.c])), (20, .v (.int .i64 0)), (28, .v (.agg #[.bool b1.s, .slice b1.m.a b1.m.n b1.m.c, .slice b1.d.a b1.d.n b1.d.c, .bool b2.s, .slice b2.m.a b2.m.n b2.m.c, .slice b2.d.a b2.d.n b2.d.c])), (29, .v (.int .i64 2))] [(3, ⟨28, b1.cs ++ b2.cs⟩), (4, ⟨28, [.bool false, .slice none 0 0, .slice none 0 0, .bool false, .slice none 0 0, .slice none 0 0]⟩), (6, ⟨81, r19.cs ++ r25.cs ++ [.bool false, .slice none 0 0, .slice none 0 0, .bool false, .slice none 0 0, .slice none 0 0]⟩), (8, ⟨26, a1.cs⟩)]) (by exact zzt _ _ _) ?_
  refine sq9 ?_
  refine zza 30 (.v (.bool false)) ?_
  refine zzb 48 [(3, .adr 3 0), (4, .adr 4 0), (6, .adr 6 0), (7, .v (.int .i64 0)), (8, .adr 8 0), (19, .v (.agg #[.bool a1.s, a1.m.v, a1.d.v, .bool a2.s, a2.m.v, a2.d.v])), (20, .v (.int .i64 0)), (28, .v (.agg #[.bool b1.s, b1.m.v, b1.d.v, .bool b2.s, b2.m.v, b2.d.v])), (29, .v (.int .i64 2)), (30, .v (.bool false))] [(3, ⟨28, b1.cs ++ b2.cs⟩), (4, ⟨28, [.bool false, .slice none 0 0, .slice none 0 0, .bool false, .slice none 0 0, .slice none 0 0]⟩), (6, ⟨81, r19.cs ++ r25.cs ++ [.bool false, .slice none 0 0, .slice none 0 0, .bool false, .slice none 0 0, .slice none 0 0]⟩), (8, ⟨26, a1.cs⟩)] ?_
  refine zzc ?_
  refine zyn (by kernel_rfl) ?_
  refine zya ?_
  refine zzn ?_
  refine zze ?_
  refine zza 45 (.v (.int .i64 1)) ?_
  refine zza 20 (.v (.int .i64 1)) ?_
  refine zzv ?_
  refine rn_next ?_
  refine sw_weak (T := St.of 48 [(3, .adr 3 0), (4, .adr 4 0), (6, .adr 6 0), (19, .v (.agg #[.bool a1.s, .slice a1.m.a a1.m.n a1.m.c, .slice a1.d.a a1.d.n a1.d.c, .bool a2.s, .slice a2.m.a a2.m.n a2.m.c, .slice a2.d.a a2.d.n a2.d.c])), (20, .v (.int .i64 1))] [(3, ⟨28, b1.cs ++ b2.cs⟩), (4, ⟨28, [.bool false, .slice none 0 0, .slice none 0 0, .bool false, .slice none 0 0, .slice none 0 0]⟩), (6, ⟨81, r19.cs ++ r25.cs ++ [.bool false, .slice none 0 0, .slice none 0 0, .bool false, .slice none 0 0, .slice none 0 0]⟩)]) (by exact zzt _ _ _) ?_
  refine sq9 ?_
  refine zza 21 (.v (.bool true)) ?_
  refine zzb 48 [(3, .adr 3 0), (4, .adr 4 0), (6, .adr 6 0), (19, .v (.agg #[.bool a1.s, a1.m.v, a1.d.v, .bool a2.s, a2.m.v, a2.d.v])), (20, .v (.int .i64 1)), (21, .v (.bool true))] [(3, ⟨28, b1.cs ++ b2.cs⟩), (4, ⟨28, [.bool false, .slice none 0 0, .slice none 0 0, .bool false, .slice none 0 0, .slice none 0 0]⟩), (6, ⟨81, r19.cs ++ r25.cs ++ [.bool false, .slice none 0 0, .slice none 0 0, .bool false, .slice none 0 0, .slice none 0 0]⟩)] ?_
  refine zzc ?_
  refine zym (by kernel_rfl) ?_
  refine zzq (zzn ?_)
  refine zzc ?_
  refine zzr ?_
  refine sq9 ?_
  refine zza 22 (.v (.int .i64 1)) ?_
  refine zza 23 (.v (a2.v)) ?_
  refine zzi 8 ⟨26, [.bool false, .slice none 0 0, .slice none 0 0]⟩ ?_
  refine zza 7 (.v (.int .i64 1)) ?_
  refine zzh ⟨26, a2.cs⟩ ty26 ?_
  refine zzb 48 [(3, .adr 3 0), (4, .adr 4 0), (6, .adr 6 0), (7, .v (.int .i64 1)), (8, .adr 8 0), (19, .v (.agg #[.bool a1.s, a1.m.v, a1.d.v, .bool a2.s, a2.m.v, a2.d.v])), (20, .v (.int .i64 1))] [(3, ⟨28, b1.cs ++ b2.cs⟩), (4, ⟨28, [.bool false, .slice none 0 0, .slice none 0 0, .bool false, .slice none 0 0, .slice none 0 0]⟩), (6, ⟨81, r19.cs ++ r25.cs ++ [.bool false, .slice none 0 0, .slice none 0 0, .bool false, .slice none 0 0, .slice none 0 0]⟩), (8, ⟨26, a2.cs⟩)] ?_
  refine sq9 ?_
  refine zza 24 (.adr 3 0) ?_
  refine zzg 25 (.v (b1.v)) ty26 zzd ?_
  refine zza 26 (.adr 3 3) ?_
  refine zzg 27 (.v (b2.v)) ty26 zzd ?_
  refine zza 28 (.v (.agg #[.bool b1.s, b1.m.v, b1.d.v, .bool b2.s, b2.m.v, b2.d.v])) ?_
  refine zza 29 (.v (.int .i64 0)) ?_
  refine zzb 48 [(3, .adr 3 0), (4, .adr 4 0), (6, .adr 6 0), (7, .v (.int .i64 1)), (8, .adr 8 0), (19, .v (.agg #[.bool a1.s, a1.m.v, a1.d.v, .bool a2.s, a2.m.v, a2.d.v])), (20, .v (.int .i64 1)), (28, .v (.agg #[.bool b1.s, b1.m.v, b1.d.v, .bool b2.s, b2.m.v, b2.d.v])), (29, .v (.int .i64 0))] [(3, ⟨28, b1.cs ++ b2.cs⟩), (4, ⟨28, [.bool false, .slice none 0 0, .slice none 0 0, .bool false, .slice none 0 0, .slice none 0 0]⟩), (6, ⟨81, r19.cs ++ r25.cs ++ [.bool false, .slice none 0 0, .slice none 0 0, .bool false, .slice none 0 0, .slice none 0 0]⟩), (8, ⟨26, a2.cs⟩)] ?_
  refine zzr ?_
  refine sw_rounds 2 ?_
  refine sq9 ?_
  refine zza 30 (.v (.bool true)) ?_
  refine zzb 48 [(3, .adr 3 0), (4, .adr 4 0), (6, .adr 6 0), (7, .v (.int .i64 1)), (8, .adr 8 0), (19, .v (.agg #[.bool a1.s, a1.m.v, a1.d.v, .bool a2.s, a2.m.v, a2.d.v])), (20, .v (.int .i64 1)), (28, .v (.agg #[.bool b1.s, b1.m.v, b1.d.v, .bool b2.s, b2.m.v, b2.d.v])), (29, .v (.int .i64 0)), (30, .v (.bool true))] [(3, ⟨28, b1.cs ++ b2.cs⟩), (4, ⟨28, [.bool false, .slice none 0 0, .slice none 0 0, .bool false, .slice none 0 0, .slice none 0 0]⟩), (6, ⟨81, r19.cs ++ r25.cs ++ [.bool false, .slice none 0 0, .slice none 0 0, .bool false, .slice none 0 0, .slice none 0 0]⟩), (8, ⟨26, a2.cs⟩)] ?_
  refine zzc ?_
  refine zym (by kernel_rfl) ?_
  refine zzq (zzn ?_)
  refine zzc ?_
  refine zzr ?_
  refine sq9 ?_
  refine zza 31 (.v (.int .i64 0)) ?_
  refine zza 32 (.v (b1.v)) ?_
  refine zzi 10 ⟨26, [.bool false, .slice none 0 0, .slice none 0 0]⟩ ?_
  refine zza 9 (.v (.int .i64 0)) ?_
  refine zzh ⟨26, b1.cs⟩ ty26 ?_
  refine zzb 48 [(3, .adr 3 0), (4, .adr 4 0), (6, .adr 6 0), (7, .v (.int .i64 1)), (8, .adr 8 0), (9, .v (.int .i64 0)), (10, .adr 10 0), (19, .v (.agg #[.bool a1.s, a1.m.v, a1.d.v, .bool a2.s, a2.m.v, a2.d.v])), (20, .v (.int .i64 1)), (28, .v (.agg #[.bool b1.s, b1.m.v, b1.d.v, .bool b2.s, b2.m.v, b2.d.v])), (29, .v (.int .i64 0))] [(3, ⟨28, b1.cs ++ b2.cs⟩), (4, ⟨28, [.bool false, .slice none 0 0, .slice none 0 0, .bool false, .slice none 0 0, .slice none 0 0]⟩), (6, ⟨81, r19.cs ++ r25.cs ++ [.bool false, .slice none 0 0, .slice none 0 0, .bool false, .slice none 0 0, .slice none 0 0]⟩), (8, ⟨26, a2.cs⟩), (10, ⟨26, b1.cs⟩)] ?_
  refine zze ?_
  refine zza 34 (.v (.int .i64 1)) ?_
  refine zza 35 (.v (.int .i64 2)) ?_
  refine zza 36 (.v (.int .i64 0)) ?_
  refine zza 37 (.v (.int .i64 2)) ?_
  refine zzg 38 (.v (a2.v)) ty26 zzd ?_
  refine zzg 39 (.v (b1.v)) ty26 zzd ?_
  refine zzf 40 99 [a2.v, b1.v] ?_
  intro w30 u30 e30 d30
  have k35 := k_ratDiv1 d30 (ha2.ext (e11.trans (g13.ext.trans (e18.trans (g22.ext.trans (e24.trans (g28.ext.trans e30))))))) (hb1.ext (e11.trans (g13.ext.trans (e18.trans (g22.ext.trans (e24.trans (g28.ext.trans e30))))))) (sgI_ne hb15).1 (by omega) (by omega)
  with_reducible refine Post.mono k35 ?_
  rintro _ u33 g34 ⟨r31, rfl, h32⟩
  refine zza 33 (.v (.tuple #[r31.v, .int .i64 0])) ?_
  refine zza 41 (.v (r31.v)) ?_
  refine zza 42 (.v (.int .i64 0)) ?_
  refine zza 43 (.adr 6 6) ?_
  refine zzh ⟨81, r19.cs ++ r25.cs ++ r31.cs ++ [.bool false, .slice none 0 0, .slice none 0 0]⟩ ty26 ?_
  refine zzv ?_
  refine zzn ?_
  refine zze ?_
  refine zza 44 (.v (.int .i64 1)) ?_
  refine zza 29 (.v (.int .i64 1)) ?_
  refine zzv ?_
  refine rn_next ?_
  refine sw_weak (T := St.of 48 [(3, .adr 3 0), (4, .adr 4 0), (6, .adr 6 0), (7, .v (.int .i64 1)), (8, .adr 8 0), (19, .v (.agg #[.bool a1.s, .slice a1.m.a a1.m.n a1.m.c, .slice a1.d.a a1.d.n a1.d.c, .bool a2.s, .slice a2.m.a a2.m.n a2.m.c, .slice a2.d.a a2.d.n a2.d.c])), (20, .v (.int .i64 1)), (28, .v (.agg #[.bool b1.s, .slice b1.m.a b1.m.n b1.m.c, .slice b1.d.a b1.d.n b1.d.c, .bool b2.s, .slice b2.m.a b2.m.n b2.m.c, .slice b2.d.a b2.d.n b2.d.c])), (29, .v (.int .i64 1))] [(3, ⟨28, b1.cs ++ b2.cs⟩), (4, ⟨28, [.bool false, .slice none 0 0, .slice none 0 0, .bool false, .slice none 0 0, .slice none 0 0]⟩), (6, ⟨81, r19.cs ++ r25.cs ++ r31.cs ++ [.bool false, .slice none 0 0, .slice none 0 0]⟩), (8, ⟨26, a2.cs⟩)]) (by exact zzt _ _ _) ?_
  refine sq9 ?_
  refine zza 30 (.v (.bool true)) ?_
  refine zzb 48 [(3, .adr 3 0), (4, .adr 4 0), (6, .adr 6 0), (7, .v (.int .i64 1)), (8, .adr 8 0), (19, .v (.agg #[.bool a1.s, a1.m.v, a1.d.v, .bool a2.s, a2.m.v, a2.d.v])), (20, .v (.int .i64 1)), (28, .v (.agg #[.bool b1.s, b1.m.v, b1.d.v, .bool b2.s, b2.m.v, b2.d.v])), (29, .v (.int .i64 1)), (30, .v (.bool true))] [(3, ⟨28, b1.cs ++ b2.cs⟩), (4, ⟨28, [.bool false, .slice none 0 0, .slice none 0 0, .bool false, .slice none 0 0, .slice none 0 0]⟩), (6, ⟨81, r19.cs ++ r25.cs ++ r31.cs ++ [.bool false, .slice none 0 0, .slice none 0 0]⟩), (8, ⟨26, a2.cs⟩)] ?_
  refine zzc ?_
  refine zym (by kernel_rfl) ?_
  refine zzq (zzn ?_)
  refine zzc ?_
  refine zzr ?_
  refine sq9 ?_
  refine zza 31 (.v (.int .i64 1)) ?_
  refine zza 32 (.v (b2.v)) ?_
  refine zzi 10 ⟨26, [.bool false, .slice none 0 0, .slice none 0 0]⟩ ?_
  refine zza 9 (.v (.int .i64 1)) ?_
  refine zzh ⟨26, b2.cs⟩ ty26 ?_
  refine zzb 48 [(3, .adr 3 0), (4, .adr 4 0), (6, .adr 6 0), (7, .v (.int .i64 1)), (8, .adr 8 0), (9, .v (.int .i64 1)), (10, .adr 10 0), (19, .v (.agg #[.bool a1.s, a1.m.v, a1.d.v, .bool a2.s, a2.m.v, a2.d.v])), (20, .v (.int .i64 1)), (28, .v (.agg #[.bool b1.s, b1.m.v, b1.d.v, .bool b2.s, b2.m.v, b2.d.v])), (29, .v (.int .i64 1))] [(3, ⟨28, b1.cs ++ b2.cs⟩), (4, ⟨28, [.bool false, .slice none 0 0, .slice none 0 0, .bool false, .slice none 0 0, .slice none 0 0]⟩), (6, ⟨81, r19.cs ++ r25.cs ++ r31.cs ++ [.bool false, .slice none 0 0, .slice none 0 0]⟩), (8, ⟨26, a2.cs⟩), (10, ⟨26, b2.cs⟩)] ?_
  refine zze ?_
  refine zza 34 (.v (.int .i64 1)) ?_
  refine zza 35 (.v (.int .i64 2)) ?_
  refine zza 36 (.v (.int .i64 1)) ?_
  refine zza 37 (.v (.int .i64 3)) ?_
  refine zzg 38 (.v (a2.v)) ty26 zzd ?_
  refine zzg 39 (.v (b2.v)) ty26 zzd ?_
  refine zzf 40 99 [a2.v, b2.v] ?_
  intro w36 u36 e36 d36
  have k41 := k_ratDiv1 d36 (ha2.ext (e11.trans (g13.ext.trans (e18.trans (g22.ext.trans (e24.trans (g28.ext.trans (e30.trans (g34.ext.trans e36))))))))) (hb2.ext (e11.trans (g13.ext.trans (e18.trans (g22.ext.trans (e24.trans (g28.ext.trans (e30.trans (g34.ext.trans e36))))))))) (sgI_ne hb15).2 (by omega) (by omega)
  with_reducible refine Post.mono k41 ?_
  rintro _ u39 g40 ⟨r37, rfl, h38⟩
  refine zza 33 (.v (.tuple #[r37.v, .int .i64 0])) ?_
  refine zza 41 (.v (r37.v)) ?_
  refine zza 42 (.v (.int .i64 0)) ?_
  refine zza 43 (.adr 6 9) ?_
  refine zzh ⟨81, r19.cs ++ r25.cs ++ r31.cs ++ r37.cs⟩ ty26 ?_
  refine zzv ?_
  refine zzn ?_
  refine zze ?_
  refine zza 44 (.v (.int .i64 2)) ?_
  refine zza 29 (.v (.int .i64 2)) ?_
  refine zzv ?_
  refine rn_next ?_
  refine sw_weak (T := St.of 48 [(3, .adr 3 0), (4, .adr 4 0), (6, .adr 6 0), (7, .v (.int .i64 1)), (8, .adr 8 0), (19, .v (.agg #[.bool a1.s, .slice a1.m.a a1.m.n a1.m.c, .slice a1.d.a a1.d.n a1.d.c, .bool a2.s, .slice a2.m.a a2.m.n a2.m.c, .slice a2.d.a a2.d.n a2.d.c])), (20, .v (.int .i64 1)), (28, .v (.agg #[.bool b1.s, .slice b1.m.a b1.m.n b1.m.c, .slice b1.d.a b1.d.n b1.d.c, .bool b2.s, .slice b2.m.a b2.m.n b2.m.c, .slice b2.d.a b2.d.n b2.d.c])), (29, .v (.int .i64 2))] [(3, ⟨28, b1.cs ++ b2.cs⟩), (4, ⟨28, [.bool false, .slice none 0 0, .slice none 0 0, .bool false, .slice none 0 0, .slice none 0 0]⟩), (6, ⟨81, r19.cs ++ r25.cs ++ r31.cs ++ r37.cs⟩), (8, ⟨26, a2.cs⟩)]) (by exact zzt _ _ _) ?_
  refine sq9 ?_
  refine zza 30 (.v (.bool false)) ?_
  refine zzb 48 [(3, .adr 3 0), (4, .adr 4 0), (6, .adr 6 0), (7, .v (.int .i64 1)), (8, .adr 8 0), (19, .v (.agg #[.bool a1.s, a1.m.v, a1.d.v, .bool a2.s, a2.m.v, a2.d.v])), (20, .v (.int .i64 1)), (28, .v (.agg #[.bool b1.s, b1.m.v, b1.d.v, .bool b2.s, b2.m.v, b2.d.v])), (29, .v (.int .i64 2)), (30, .v (.bool false))] [(3, ⟨28, b1.cs ++ b2.cs⟩), (4, ⟨28, [.bool false, .slice none 0 0, .slice none 0 0, .bool false, .slice none 0 0, .slice none 0 0]⟩), (6, ⟨81, r19.cs ++ r25.cs ++ r31.cs ++ r37.cs⟩), (8, ⟨26, a2.cs⟩)] ?_
  refine zzc ?_
  refine zyn (by kernel_rfl) ?_
  refine zya ?_
  refine zzn ?_
  refine zze ?_
  refine zza 45 (.v (.int .i64 2)) ?_
  refine zza 20 (.v (.int .i64 2)) ?_
  refine zzv ?_
  refine rn_next ?_
  refine sw_weak (T := St.of 48 [(3, .adr 3 0), (4, .adr 4 0), (6, .adr 6 0), (19, .v (.agg #[.bool a1.s, .slice a1.m.a a1.m.n a1.m.c, .slice a1.d.a a1.d.n a1.d.c, .bool a2.s, .slice a2.m.a a2.m.n a2.m.c, .slice a2.d.a a2.d.n a2.d.c])), (20, .v (.int .i64 2))] [(3, ⟨28, b1.cs ++ b2.cs⟩), (4, ⟨28, [.bool false, .slice none 0 0, .slice none 0 0, .bool false, .slice none 0 0, .slice none 0 0]⟩), (6, ⟨81, r19.cs ++ r25.cs ++ r31.cs ++ r37.cs⟩)]) (by exact zzt _ _ _) ?_
  refine sq9 ?_
  refine zza 21 (.v (.bool false)) ?_
  refine zzb 48 [(3, .adr 3 0), (4, .adr 4 0), (6, .adr 6 0), (19, .v (.agg #[.bool a1.s, a1.m.v, a1.d.v, .bool a2.s, a2.m.v, a2.d.v])), (20, .v (.int .i64 2)), (21, .v (.bool false))] [(3, ⟨28, b1.cs ++ b2.cs⟩), (4, ⟨28, [.bool false, .slice none 0 0, .slice none 0 0, .bool false, .slice none 0 0, .slice none 0 0]⟩), (6, ⟨81, r19.cs ++ r25.cs ++ r31.cs ++ r37.cs⟩)] ?_
  refine zzc ?_
  refine zyn (by kernel_rfl) ?_
  refine zya ?_
  refine zzn ?_
  refine sq9 ?_
  refine zzg 46 (.v (.agg #[.bool r19.s, r19.m.v, r19.d.v, .bool r25.s, r25.m.v, r25.d.v, .bool r31.s, r31.m.v, r31.d.v, .bool r37.s, r37.m.v, r37.d.v])) ty81 zzd ?_
  refine zzf 47 100 [.agg #[.bool r19.s, r19.m.v, r19.d.v, .bool r25.s, r25.m.v, r25.d.v, .bool r31.s, r31.m.v, r31.d.v, .bool r37.s, r37.m.v, r37.d.v]] ?_
  intro w42 u42 e42 d42
  have k49 := k_around d42 (h20.ext (e24.trans (g28.ext.trans (e30.trans (g34.ext.trans (e36.trans (g40.ext.trans e42))))))) (h26.ext (e30.trans (g34.ext.trans (e36.trans (g40.ext.trans e42))))) (h32.ext (e36.trans (g40.ext.trans e42))) (h38.ext e42) (by omega)
  with_reducible refine Post.mono k49 ?_
  rintro _ u47 g48 ⟨r43, r45, rfl, h44, h46⟩
  refine zzh ⟨28, r43.cs ++ r45.cs⟩ ty28 ?_
  refine zza 5 (.v (.int .i64 0)) ?_
  refine zzb 48 [(4, .adr 4 0), (5, .v (.int .i64 0))] [(4, ⟨28, r43.cs ++ r45.cs⟩)] ?_
  refine zzm (ret0 [.agg #[.bool r43.s, .slice r43.m.a r43.m.n r43.m.c, .slice r43.d.a r43.d.n r43.d.c, .bool r45.s, .slice r45.m.a r45.m.n r45.m.c, .slice r45.d.a r45.d.n r45.d.c], .int .i64 0] ⟨zzp ty28 zzd, zzo, trivial⟩ fun u50 e51 => ?_)
  exact .inr ⟨by simpa using hb15, r43, r45, rfl, (h44.ext e51), (h46.ext e51)⟩
theorem k_r4Trim {u w : World} {a1 a2 : RL} {x1 x2 : Rat} {K : Nat} (d : Dat u w) (ha1 : RatV u a1 x1 K) (ha2 : RatV u a2 x2 K) (hK : K ≤ 100000000) : Calls Tryz.prog 69 #[IV a1 a2] w (Post u w fun v u' => ∃ p q : RL, v = IV p q ∧ RatN u' p (Nt.lo x1 x2) K ∧ RatN u' q (Nt.hi x1 x2) K) := by
 refine zzk (args := [.agg #[.bool a1.s, .slice a1.m.a a1.m.n a1.m.c, .slice a1.d.a a1.d.n a1.d.c, .bool a2.s, .slice a2.m.a a2.m.n a2.m.c, .slice a2.d.a a2.d.n a2.d.c]]) Tryz.func69 rfl Tryz.ntmps69 (rs := [.cell 2 28]) Tryz.results69 (le_b rfl) (le_b rfl) d ?_
 refine sq9 ?_
 refine zzi 1 ⟨28, a1.cs ++ a2.cs⟩ ?_
 refine zzi 2 ⟨28, [.bool false, .slice none 0 0, .slice none 0 0, .bool false, .slice none 0 0, .slice none 0 0]⟩ ?_
 refine zzb 14 [(1, .adr 1 0), (2, .adr 2 0)] [(1, ⟨28, a1.cs ++ a2.cs⟩), (2, ⟨28, [.bool false, .slice none 0 0, .slice none 0 0, .bool false, .slice none 0 0, .slice none 0 0]⟩)] ?_
 refine zzc ?_
 refine zzx [0, 1, 0, 4, 15, 0, 32, 0, 128, 511, 1023, 2047] [(0, []), (1, []), (2, []), (3, []), (5, []), (6, []), (7, []), (8, []), (4, []), (9, []), (10, []), (11, [])] (by kernel_rfl) (by kernel_rfl) ?_
 refine zza 3 (.adr 1 0) ?_
 refine zzg 4 (.v (a1.v)) ty26 zzd ?_
 refine zza 5 (.adr 1 3) ?_
 refine zzg 6 (.v (a2.v)) ty26 zzd ?_
 refine zza 8 (.adr 1 0) ?_
 refine zzg 9 (.v (a1.v)) ty26 zzd ?_
 refine zza 10 (.adr 1 3) ?_
 refine zzg 11 (.v (a2.v)) ty26 zzd ?_
 refine zzf 7 130 [a1.v, a2.v] ?_
 intro w11 u11 e11 d11
 have k16 := k_rqMin d11 (ha1.ext e11) (ha2.ext e11) (by omega) (by omega)
 with_reducible refine Post.mono k16 ?_
 rintro _ u14 g15 ⟨r12, rfl, h13⟩
 refine zzf 12 129 [a1.v, a2.v] ?_
 intro w17 u17 e17 d17
 have k22 := k_rqMax d17 (ha1.ext (e11.trans (g15.ext.trans e17))) (ha2.ext (e11.trans (g15.ext.trans e17))) (by omega) (by omega)
 with_reducible refine Post.mono k22 ?_
 rintro _ u20 g21 ⟨r18, rfl, h19⟩
 refine zza 13 (.v (.agg #[.bool r12.s, r12.m.v, r12.d.v, .bool r18.s, r18.m.v, r18.d.v])) ?_
 refine zzh ⟨28, r12.cs ++ r18.cs⟩ ty28 ?_
 refine zzb 14 [(2, .adr 2 0)] [(2, ⟨28, r12.cs ++ r18.cs⟩)] ?_
 refine zzm (ret0 [.agg #[.bool r12.s, .slice r12.m.a r12.m.n r12.m.c, .slice r12.d.a r12.d.n r12.d.c, .bool r18.s, .slice r18.m.a r18.m.n r18.m.c, .slice r18.d.a r18.d.n r18.d.c]] ⟨zzp ty28 zzd, trivial⟩ fun u23 e24 => ?_)
 refine ⟨r12, r18, rfl, RatN.more (K := (max K K)) ?_ (by omega), RatN.more (K := (max K K)) ?_ (by omega)⟩
 ·exact (h13.ext (e17.trans (g21.ext.trans e24)))
 ·exact (h19.ext e24)
theorem k_r4Same {u w : World} {a1 a2 : RL} {x1 x2 : Rat} {b1 b2 : RL} {y1 y2 : Rat} {K L : Nat} (d : Dat u w) (ha1 : RatN u a1 x1 K) (ha2 : RatN u a2 x2 K) (hb1 : RatN u b1 y1 L) (hb2 : RatN u b2 y2 L) : Calls Tryz.prog 59 #[IV a1 a2, IV b1 b2] w (Post u w fun v u' => v = .bool (decide (x1 = y1) && decide (x2 = y2))) := by
 refine zzk (args := [.agg #[.bool a1.s, .slice a1.m.a a1.m.n a1.m.c, .slice a1.d.a a1.d.n a1.d.c, .bool a2.s, .slice a2.m.a a2.m.n a2.m.c, .slice a2.d.a a2.d.n a2.d.c], .agg #[.bool b1.s, .slice b1.m.a b1.m.n b1.m.c, .slice b1.d.a b1.d.n b1.d.c, .bool b2.s, .slice b2.m.a b2.m.n b2.m.c, .slice b2.d.a b2.d.n b2.d.c]]) Tryz.func59 rfl Tryz.ntmps59 (rs := [.tmp 4]) Tryz.results59 (le_b rfl) (le_b rfl) d ?_
 refine sq9 ?_
 refine zzi 2 ⟨28, a1.cs ++ a2.cs⟩ ?_
 refine zzi 3 ⟨28, b1.cs ++ b2.cs⟩ ?_
 refine zza 4 (.v (.bool false)) ?_
 refine zzb 17 [(2, .adr 2 0), (3, .adr 3 0)] [(2, ⟨28, a1.cs ++ a2.cs⟩), (3, ⟨28, b1.cs ++ b2.cs⟩)] ?_
 refine sq9 ?_
 refine zza 5 (.adr 2 0) ?_
 refine zzg 6 (.v (a1.v)) ty26 zzd ?_
 refine zza 7 (.adr 3 0) ?_
 refine zzg 8 (.v (b1.v)) ty26 zzd ?_
 refine zzf 9 71 [a1.v, b1.v] ?_
 intro w11 u11 e11 d11
 have k14 := k_rqSame d11 (ha1.ext e11) (hb1.ext e11)
 with_reducible refine Post.mono k14 ?_
 rintro _ u12 g13 rfl
 rcases Bool.eq_false_or_eq_true (decide (x1 = y1)) with hs15 | hs15
 ·refine zyl 10 (x := .v (.bool (decide (x1 = y1)))) (.v (.bool true)) (by rw [hs15]) ?_
  have qhs15 := of_decide_eq_true hs15
  refine zza 11 (.adr 2 3) ?_ (hw := w1 5 true 10)
  refine zzg 12 (.v (a2.v)) ty26 zzd ?_ (hw := w1 5 true 10)
  refine zza 13 (.adr 3 3) ?_ (hw := w1 5 true 10)
  refine zzg 14 (.v (b2.v)) ty26 zzd ?_ (hw := w1 5 true 10)
  refine zzf 15 71 [a2.v, b2.v] ?_ (hw := w1 5 true 10)
  intro w16 u16 e16 d16
  have k19 := k_rqSame d16 (ha2.ext (e11.trans (g13.ext.trans e16))) (hb2.ext (e11.trans (g13.ext.trans e16)))
  with_reducible refine Post.mono k19 ?_
  rintro _ u17 g18 rfl
  refine zza 16 (.v (.bool (decide (x2 = y2)))) ?_
  refine zza 4 (.v (.bool (decide (x2 = y2)))) ?_
  refine zzb 17 [(4, .v (.bool (decide (x2 = y2))))] [] ?_
  refine zzm (ret0 [.bool (decide (x2 = y2))] ⟨zzo, trivial⟩ fun u20 e21 => ?_)
  show _ = _
  rw [hs15]
  rfl
 ·refine zyl 10 (x := .v (.bool (decide (x1 = y1)))) (.v (.bool false)) (by rw [hs15]) ?_
  have qhs15 := of_decide_eq_false hs15
  refine zzl 11 (uw 5 true false 10) ?_
  refine zzl 12 (uw 5 true false 10) ?_
  refine zzl 13 (uw 5 true false 10) ?_
  refine zzl 14 (uw 5 true false 10) ?_
  refine zzl 15 (uw 5 true false 10) ?_
  refine zza 16 (.v (.bool false)) ?_
  refine zza 4 (.v (.bool false)) ?_
  refine zzb 17 [(4, .v (.bool false))] [] ?_
  refine zzm (ret0 [.bool false] ⟨zzo, trivial⟩ fun u22 e23 => ?_)
  show _ = _
  rw [hs15]
  rfl
theorem k_r4Make {u w : World} {a : RL} {x : Rat} {b : RL} {y : Rat} {K : Nat} (d : Dat u w) (ha : RatV u a x K) (hb : RatV u b y K) (hK : K ≤ 100000000) : Calls Tryz.prog 46 #[a.v, b.v] w (Post u w fun v u' => ∃ p q : RL, v = IV p q ∧ RatN u' p (Nt.lo x y) K ∧ RatN u' q (Nt.hi x y) K) := by
 refine zzk (args := [a.v, b.v]) Tryz.func46 rfl Tryz.ntmps46 (rs := [.cell 4 28]) Tryz.results46 (le_b rfl) (le_b rfl) d ?_
 refine sq9 ?_
 refine zzi 2 ⟨26, a.cs⟩ ?_
 refine zzi 3 ⟨26, b.cs⟩ ?_
 refine zzi 4 ⟨28, [.bool false, .slice none 0 0, .slice none 0 0, .bool false, .slice none 0 0, .slice none 0 0]⟩ ?_
 refine zzb 9 [(2, .adr 2 0), (3, .adr 3 0), (4, .adr 4 0)] [(2, ⟨26, a.cs⟩), (3, ⟨26, b.cs⟩), (4, ⟨28, [.bool false, .slice none 0 0, .slice none 0 0, .bool false, .slice none 0 0, .slice none 0 0]⟩)] ?_
 refine sq9 ?_
 refine zzg 5 (.v (a.v)) ty26 zzd ?_
 refine zzg 6 (.v (b.v)) ty26 zzd ?_
 refine zza 7 (.v (.agg #[.bool a.s, a.m.v, a.d.v, .bool b.s, b.m.v, b.d.v])) ?_
 refine zzf 8 69 [.agg #[.bool a.s, a.m.v, a.d.v, .bool b.s, b.m.v, b.d.v]] ?_
 intro w11 u11 e11 d11
 have k18 := k_r4Trim d11 (ha.ext e11) (hb.ext e11) (by omega)
 with_reducible refine Post.mono k18 ?_
 rintro _ u16 g17 ⟨r12, r14, rfl, h13, h15⟩
 refine zzh ⟨28, r12.cs ++ r14.cs⟩ ty28 ?_
 refine zzb 9 [(4, .adr 4 0)] [(4, ⟨28, r12.cs ++ r14.cs⟩)] ?_
 refine zzm (ret0 [.agg #[.bool r12.s, .slice r12.m.a r12.m.n r12.m.c, .slice r12.d.a r12.d.n r12.d.c, .bool r14.s, .slice r14.m.a r14.m.n r14.m.c, .slice r14.d.a r14.d.n r14.d.c]] ⟨zzp ty28 zzd, trivial⟩ fun u19 e20 => ?_)
 refine ⟨r12, r14, rfl, RatN.more (K := K) ?_ (by omega), RatN.more (K := K) ?_ (by omega)⟩
 ·exact (h13.ext e20)
 ·exact (h15.ext e20)
theorem k_r4Width {u w : World} {a1 a2 : RL} {x1 x2 : Rat} {K : Nat} (d : Dat u w) (ha1 : RatV u a1 x1 K) (ha2 : RatV u a2 x2 K) (hK : K ≤ 50000000) : Calls Tryz.prog 48 #[IV a1 a2] w (Post u w fun v u' => ∃ p : RL, v = p.v ∧ RatN u' p (Nt.hi x1 x2 - Nt.lo x1 x2) (K + K + 2)) := by
 refine zzk (args := [.agg #[.bool a1.s, .slice a1.m.a a1.m.n a1.m.c, .slice a1.d.a a1.d.n a1.d.c, .bool a2.s, .slice a2.m.a a2.m.n a2.m.c, .slice a2.d.a a2.d.n a2.d.c]]) Tryz.func48 rfl Tryz.ntmps48 (rs := [.cell 2 26]) Tryz.results48 (le_b rfl) (le_b rfl) d ?_
 refine sq9 ?_
 refine zzi 1 ⟨28, a1.cs ++ a2.cs⟩ ?_
 refine zzi 2 ⟨26, [.bool false, .slice none 0 0, .slice none 0 0]⟩ ?_
 refine zzb 10 [(1, .adr 1 0), (2, .adr 2 0)] [(1, ⟨28, a1.cs ++ a2.cs⟩), (2, ⟨26, [.bool false, .slice none 0 0, .slice none 0 0]⟩)] ?_
 refine sq9 ?_
 refine zzg 3 (.v (.agg #[.bool a1.s, a1.m.v, a1.d.v, .bool a2.s, a2.m.v, a2.d.v])) ty28 zzd ?_
 refine zzf 4 69 [.agg #[.bool a1.s, a1.m.v, a1.d.v, .bool a2.s, a2.m.v, a2.d.v]] ?_
 intro w11 u11 e11 d11
 have k18 := k_r4Trim d11 (ha1.ext e11) (ha2.ext e11) (by omega)
 with_reducible refine Post.mono k18 ?_
 rintro _ u16 g17 ⟨r12, r14, rfl, h13, h15⟩
 refine zzh ⟨28, r12.cs ++ r14.cs⟩ ty28 ?_
 refine zzb 10 [(1, .adr 1 0), (2, .adr 2 0)] [(1, ⟨28, r12.cs ++ r14.cs⟩), (2, ⟨26, [.bool false, .slice none 0 0, .slice none 0 0]⟩)] ?_
 refine sq9 ?_
 refine zza 5 (.adr 1 3) ?_
 refine zzg 6 (.v (r14.v)) ty26 zzd ?_
 refine zza 7 (.adr 1 0) ?_
 refine zzg 8 (.v (r12.v)) ty26 zzd ?_
 refine zzf 9 20 [r14.v, r12.v] ?_
 intro w19 u19 e19 d19
 have k24 := k_rqSub d19 (h15.ext e19).raw (h13.ext e19).raw (by omega) (by omega)
 with_reducible refine Post.mono k24 ?_
 rintro _ u22 g23 ⟨r20, rfl, h21⟩
 refine zzh ⟨26, r20.cs⟩ ty26 ?_
 refine zzb 10 [(2, .adr 2 0)] [(2, ⟨26, r20.cs⟩)] ?_
 refine zzm (ret0 [r20.v] ⟨zzp ty26 zzd, trivial⟩ fun u25 e26 => ?_)
 exact ⟨r20, rfl, (h21.ext e26)⟩
theorem k_r4Contains {u w : World} {a1 a2 : RL} {x1 x2 : Rat} {b : RL} {y : Rat} {K L : Nat} (d : Dat u w) (ha1 : RatV u a1 x1 K) (ha2 : RatV u a2 x2 K) (hb : RatV u b y L) (hK : K ≤ 100000000) (hL : L ≤ 100000000) : Calls Tryz.prog 15 #[IV a1 a2, b.v] w (Post u w fun v u' => v = .bool (Nt.inI x1 x2 y)) := by
 refine zzk (args := [.agg #[.bool a1.s, .slice a1.m.a a1.m.n a1.m.c, .slice a1.d.a a1.d.n a1.d.c, .bool a2.s, .slice a2.m.a a2.m.n a2.m.c, .slice a2.d.a a2.d.n a2.d.c], b.v]) Tryz.func15 rfl Tryz.ntmps15 (rs := [.tmp 4]) Tryz.results15 (le_b rfl) (le_b rfl) d ?_
 refine sq9 ?_
 refine zzi 2 ⟨28, a1.cs ++ a2.cs⟩ ?_
 refine zzi 3 ⟨26, b.cs⟩ ?_
 refine zza 4 (.v (.bool false)) ?_
 refine zzb 19 [(2, .adr 2 0), (3, .adr 3 0)] [(2, ⟨28, a1.cs ++ a2.cs⟩), (3, ⟨26, b.cs⟩)] ?_
 refine sq9 ?_
 refine zzg 5 (.v (.agg #[.bool a1.s, a1.m.v, a1.d.v, .bool a2.s, a2.m.v, a2.d.v])) ty28 zzd ?_
 refine zzf 6 69 [.agg #[.bool a1.s, a1.m.v, a1.d.v, .bool a2.s, a2.m.v, a2.d.v]] ?_
 intro w11 u11 e11 d11
 have k18 := k_r4Trim d11 (ha1.ext e11) (ha2.ext e11) (by omega)
 with_reducible refine Post.mono k18 ?_
 rintro _ u16 g17 ⟨r12, r14, rfl, h13, h15⟩
 refine zzh ⟨28, r12.cs ++ r14.cs⟩ ty28 ?_
 refine zzb 19 [(2, .adr 2 0), (3, .adr 3 0)] [(2, ⟨28, r12.cs ++ r14.cs⟩), (3, ⟨26, b.cs⟩)] ?_
 refine sq9 ?_
 refine zzg 7 (.v (b.v)) ty26 zzd ?_
 refine zza 8 (.adr 2 0) ?_
 refine zzg 9 (.v (r12.v)) ty26 zzd ?_
 refine zzf 10 101 [b.v, r12.v] ?_
 intro w19 u19 e19 d19
 have k22 := k_rqLess d19 (hb.ext (e11.trans (g17.ext.trans e19))) (h13.ext e19).raw (by omega) (by omega)
 with_reducible refine Post.mono k22 ?_
 rintro _ u20 g21 rfl
 refine zza 11 (.v (.bool (!(decide (y < (Nt.lo x1 x2)))))) ?_
 rcases Bool.eq_false_or_eq_true (!(decide (y < (Nt.lo x1 x2)))) with hs23 | hs23
 ·refine zyl 12 (x := .v (.bool (!(decide (y < (Nt.lo x1 x2)))))) (.v (.bool true)) (by rw [hs23]) ?_
  refine zza 13 (.adr 2 3) ?_ (hw := w1 5 true 12)
  refine zzg 14 (.v (r14.v)) ty26 zzd ?_ (hw := w1 5 true 12)
  refine zzg 15 (.v (b.v)) ty26 zzd ?_ (hw := w1 5 true 12)
  refine zzf 16 101 [r14.v, b.v] ?_ (hw := w1 5 true 12)
  intro w24 u24 e24 d24
  have k27 := k_rqLess d24 (h15.ext (e19.trans (g21.ext.trans e24))).raw (hb.ext (e11.trans (g17.ext.trans (e19.trans (g21.ext.trans e24))))) (by omega) (by omega)
  with_reducible refine Post.mono k27 ?_
  rintro _ u25 g26 rfl
  refine zza 17 (.v (.bool (!(decide ((Nt.hi x1 x2) < y))))) ?_ (hw := w1 5 true 12)
  refine zza 18 (.v (.bool (!(decide ((Nt.hi x1 x2) < y))))) ?_
  refine zza 4 (.v (.bool (!(decide ((Nt.hi x1 x2) < y))))) ?_
  refine zzb 19 [(4, .v (.bool (!(decide ((Nt.hi x1 x2) < y)))))] [] ?_
  refine zzm (ret0 [.bool (!(decide ((Nt.hi x1 x2) < y)))] ⟨zzo, trivial⟩ fun u28 e29 => ?_)
  show _ = _
  rw [Nt.inI_less, hs23]
  rfl
 ·refine zyl 12 (x := .v (.bool (!(decide (y < (Nt.lo x1 x2)))))) (.v (.bool false)) (by rw [hs23]) ?_
  refine zzl 13 (uw 5 true false 12) ?_
  refine zzl 14 (uw 5 true false 12) ?_
  refine zzl 15 (uw 5 true false 12) ?_
  refine zzl 16 (uw 5 true false 12) ?_
  refine zzl 17 (uw 5 true false 12) ?_
  refine zza 18 (.v (.bool false)) ?_
  refine zza 4 (.v (.bool false)) ?_
  refine zzb 19 [(4, .v (.bool false))] [] ?_
  refine zzm (ret0 [.bool false] ⟨zzo, trivial⟩ fun u30 e31 => ?_)
  show _ = _
  rw [Nt.inI_less, hs23]
  rfl
theorem k_r4Inside {u w : World} {a1 a2 : RL} {x1 x2 : Rat} {b1 b2 : RL} {y1 y2 : Rat} {K L : Nat} (d : Dat u w) (ha1 : RatV u a1 x1 K) (ha2 : RatV u a2 x2 K) (hb1 : RatV u b1 y1 L) (hb2 : RatV u b2 y2 L) (hK : K ≤ 100000000) (hL : L ≤ 100000000) : Calls Tryz.prog 63 #[IV a1 a2, IV b1 b2] w (Post u w fun v u' => v = .bool (Nt.inI y1 y2 x1 && Nt.inI y1 y2 x2)) := by
 refine zzk (args := [.agg #[.bool a1.s, .slice a1.m.a a1.m.n a1.m.c, .slice a1.d.a a1.d.n a1.d.c, .bool a2.s, .slice a2.m.a a2.m.n a2.m.c, .slice a2.d.a a2.d.n a2.d.c], .agg #[.bool b1.s, .slice b1.m.a b1.m.n b1.m.c, .slice b1.d.a b1.d.n b1.d.c, .bool b2.s, .slice b2.m.a b2.m.n b2.m.c, .slice b2.d.a b2.d.n b2.d.c]]) Tryz.func63 rfl Tryz.ntmps63 (rs := [.tmp 4]) Tryz.results63 (le_b rfl) (le_b rfl) d ?_
 refine sq9 ?_
 refine zzi 2 ⟨28, a1.cs ++ a2.cs⟩ ?_
 refine zzi 3 ⟨28, b1.cs ++ b2.cs⟩ ?_
 refine zza 4 (.v (.bool false)) ?_
 refine zzb 15 [(2, .adr 2 0), (3, .adr 3 0)] [(2, ⟨28, a1.cs ++ a2.cs⟩), (3, ⟨28, b1.cs ++ b2.cs⟩)] ?_
 refine sq9 ?_
 refine zzg 5 (.v (.agg #[.bool b1.s, b1.m.v, b1.d.v, .bool b2.s, b2.m.v, b2.d.v])) ty28 zzd ?_
 refine zza 6 (.adr 2 0) ?_
 refine zzg 7 (.v (a1.v)) ty26 zzd ?_
 refine zzf 8 15 [.agg #[.bool b1.s, b1.m.v, b1.d.v, .bool b2.s, b2.m.v, b2.d.v], a1.v] ?_
 intro w11 u11 e11 d11
 have k14 := k_r4Contains d11 (hb1.ext e11) (hb2.ext e11) (ha1.ext e11) (by omega) (by omega)
 with_reducible refine Post.mono k14 ?_
 rintro _ u12 g13 rfl
 rcases Bool.eq_false_or_eq_true (Nt.inI y1 y2 x1) with hs15 | hs15
 ·refine zyl 9 (x := .v (.bool (Nt.inI y1 y2 x1))) (.v (.bool true)) (by rw [hs15]) ?_
  refine zzg 10 (.v (.agg #[.bool b1.s, b1.m.v, b1.d.v, .bool b2.s, b2.m.v, b2.d.v])) ty28 zzd ?_ (hw := w1 4 true 9)
  refine zza 11 (.adr 2 3) ?_ (hw := w1 4 true 9)
  refine zzg 12 (.v (a2.v)) ty26 zzd ?_ (hw := w1 4 true 9)
  refine zzf 13 15 [.agg #[.bool b1.s, b1.m.v, b1.d.v, .bool b2.s, b2.m.v, b2.d.v], a2.v] ?_ (hw := w1 4 true 9)
  intro w16 u16 e16 d16
  have k19 := k_r4Contains d16 (hb1.ext (e11.trans (g13.ext.trans e16))) (hb2.ext (e11.trans (g13.ext.trans e16))) (ha2.ext (e11.trans (g13.ext.trans e16))) (by omega) (by omega)
  with_reducible refine Post.mono k19 ?_
  rintro _ u17 g18 rfl
  refine zza 14 (.v (.bool (Nt.inI y1 y2 x2))) ?_
  refine zza 4 (.v (.bool (Nt.inI y1 y2 x2))) ?_
  refine zzb 15 [(4, .v (.bool (Nt.inI y1 y2 x2)))] [] ?_
  refine zzm (ret0 [.bool (Nt.inI y1 y2 x2)] ⟨zzo, trivial⟩ fun u20 e21 => ?_)
  show _ = _
  rw [hs15]
  rfl
 ·refine zyl 9 (x := .v (.bool (Nt.inI y1 y2 x1))) (.v (.bool false)) (by rw [hs15]) ?_
  refine zzl 10 (uw 4 true false 9) ?_
  refine zzl 11 (uw 4 true false 9) ?_
  refine zzl 12 (uw 4 true false 9) ?_
  refine zzl 13 (uw 4 true false 9) ?_
  refine zza 14 (.v (.bool false)) ?_
  refine zza 4 (.v (.bool false)) ?_
  refine zzb 15 [(4, .v (.bool false))] [] ?_
  refine zzm (ret0 [.bool false] ⟨zzo, trivial⟩ fun u22 e23 => ?_)
  show _ = _
  rw [hs15]
  rfl
theorem mod_pos (m : Int) (hm : 1 ≤ m) (n : Int) (h : decide (Int.tmod n m < 0) = false) : Int.tmod n m = n % m := by
 have h := of_decide_eq_false h
 rcases Int.lt_or_le n 0 with hn | hn
 ·have e := Int.tmod_add_mul_tdiv n m
  have h2 : -m < Int.tmod n m := Int.lt_tmod_of_pos n (by omega)
  have h3 : Int.tmod n m ≤ 0 := by
   have h8 := Int.neg_tmod n m
   have h9 : Int.tmod (-n) m = (-n) % m := Int.tmod_eq_emod_of_nonneg (by omega)
   have h10 := Int.emod_nonneg (-n) (show m ≠ 0 by omega)
   omega
  have h4 : Int.tmod n m = 0 := by omega
  rw [h4] at e ⊢
  have : m ∣ n := ⟨n.tdiv m, by omega⟩
  exact (Int.emod_eq_zero_of_dvd this).symm
 ·exact Int.tmod_eq_emod_of_nonneg hn
theorem mod_neg (m : Int) (hm : 1 ≤ m) (n : Int) (h : decide (Int.tmod n m < 0) = true) : Int.tmod n m + m = n % m := by
 have h := of_decide_eq_true h
 have e := Int.tmod_add_mul_tdiv n m
 have h2 : -m < Int.tmod n m := Int.lt_tmod_of_pos n (by omega)
 have h5 : n = m * (n.tdiv m - 1) + (Int.tmod n m + m) := by rw [Int.mul_sub, Int.mul_one]; omega
 have := (Nt.ediv_uniq (z := n) (y := m) (q := n.tdiv m - 1) (r := Int.tmod n m + m) (by omega) h5 (by omega) (by omega)).2
 exact this.symm
theorem k_Mod {u w : World} {n m : Int} (d : Dat u w) (hm : 1 ≤ m) (hm2 : m ≤ 4611686018427387904) (hn0 : -9223372036854775808 ≤ n) (hn1 : n ≤ 9223372036854775807) : Calls Tryz.prog 50 #[.int .i64 n, .int .i64 m] w (Post u w fun v _ => v = .int .i64 (n % m)) := by
 refine zzk (args := [.int .i64 n, .int .i64 m]) Tryz.func50 rfl Tryz.ntmps50 (rs := [.tmp 4]) Tryz.results50 (le_b rfl) (le_b rfl) d ?_
 refine sq9 ?_
 refine zza 4 (.v (.int .i64 0)) ?_
 refine zzb 16 [(0, .v (.int .i64 n)), (1, .v (.int .i64 m))] [] ?_
 refine zzc ?_
 refine sq9 ?_
 refine zza 5 (.v (.int .i64 m)) ?_
 refine zyl 6 (x := .v (.bool (decide (m < 1)))) (.v (.bool false)) (by rw [show (decide (m < 1)) = false from (by simp; omega)]) ?_
 refine zzb 16 [(0, .v (.int .i64 n)), (1, .v (.int .i64 m)), (6, .v (.bool false))] [] ?_
 refine zyn (by kernel_rfl) ?_
 refine zzq (zzn ?_)
 refine sq9 ?_
 refine zza 7 (.v (.int .i64 n)) ?_
 refine zza 8 (.v (.int .i64 m)) ?_
 refine sy_rem 9 (Int.tmod n m) (by omega) rfl ?_
 refine zza 0 (.v (.int .i64 (Int.tmod n m))) ?_
 refine zzb 16 [(0, .v (.int .i64 (Int.tmod n m))), (1, .v (.int .i64 m))] [] ?_
 refine zzc ?_
 refine sq9 ?_
 refine zza 10 (.v (.int .i64 (Int.tmod n m))) ?_
 refine zza 11 (.v (.bool (decide ((Int.tmod n m) < 0)))) ?_
 refine zzb 16 [(0, .v (.int .i64 (Int.tmod n m))), (1, .v (.int .i64 m)), (11, .v (.bool (decide ((Int.tmod n m) < 0))))] [] ?_
 refine zzs (b := decide ((Int.tmod n m) < 0)) (by kernel_rfl) (fun hb11 => ?_) (fun hb11 => ?_)
 ·replace hb11 : (decide ((Int.tmod n m) < 0)) = true := hb11
  have qhb11 := of_decide_eq_true hb11
  refine zze ?_
  refine zza 12 (.v (.int .i64 (Int.tmod n m))) ?_
  refine zza 13 (.v (.int .i64 m)) ?_
  refine zyl 14 (x := .v (.int .i64 (IntKind.i64.wrap (Int.tmod n m + m)))) (.v (.int .i64 (Int.tmod n m + m))) (by rw [show (IntKind.i64.wrap (Int.tmod n m + m)) = (Int.tmod n m + m) from (IntWalk.i64_in _ (by have h2 := Int.lt_tmod_of_pos n (show 0 < m by omega); have h3 := Int.tmod_lt_of_pos n (show 0 < m by omega); omega))]) ?_
  refine zza 0 (.v (.int .i64 (Int.tmod n m + m))) ?_
  refine zzb 16 [(0, .v (.int .i64 (Int.tmod n m + m)))] [] ?_
  refine sq9 ?_
  refine zza 15 (.v (.int .i64 (Int.tmod n m + m))) ?_
  refine zza 4 (.v (.int .i64 (Int.tmod n m + m))) ?_
  refine zzb 16 [(4, .v (.int .i64 (Int.tmod n m + m)))] [] ?_
  refine zzm (ret0 [.int .i64 (Int.tmod n m + m)] ⟨zzo, trivial⟩ fun u12 e13 => ?_)
  show Value.int _ _ = Value.int _ _
  rw [mod_neg m hm n hb11]
 ·replace hb11 : (decide ((Int.tmod n m) < 0)) = false := hb11
  have qhb11 := of_decide_eq_false hb11
  refine zzq (zzn ?_)
  refine sq9 ?_
  refine zza 15 (.v (.int .i64 (Int.tmod n m))) ?_
  refine zza 4 (.v (.int .i64 (Int.tmod n m))) ?_
  refine zzb 16 [(4, .v (.int .i64 (Int.tmod n m)))] [] ?_
  refine zzm (ret0 [.int .i64 (Int.tmod n m)] ⟨zzo, trivial⟩ fun u14 e15 => ?_)
  show Value.int _ _ = Value.int _ _
  rw [mod_pos m hm n hb11]
def smR (r : RL) : Bool := decide ((r.m.n : Int) ≤ 4) && decide ((r.d.n : Int) ≤ 4)
theorem smR_few {u : World} {r : RL} {q : Rat} {K : Nat} (h : RatV u r q K) (hs : smR r = true) : RatV u r q 4 := by
 unfold smR at hs
 simp at hs
 exact h.few (by omega) (by omega) (by omega)
theorem k_smallRat {u w : World} {r : RL} (d : Dat u w) : Calls Tryz.prog 55 #[r.v] w (Post u w fun v _ => v = .bool (smR r)) := by
 refine zzk (args := [r.v]) Tryz.func55 rfl Tryz.ntmps55 (rs := [.tmp 2]) Tryz.results55 (le_b rfl) (le_b rfl) d ?_
 refine sq9 ?_
 refine zzi 1 ⟨26, r.cs⟩ ?_
 refine zza 2 (.v (.bool false)) ?_
 refine zzb 14 [(1, .adr 1 0)] [(1, ⟨26, r.cs⟩)] ?_
 refine sq9 ?_
 refine zza 3 (.adr 1 0) ?_
 refine zza 4 (.adr 1 1) ?_
 refine zzg 5 (.v r.m.v) ty22 zzj ?_
 refine zza 6 (.v (.int .i64 (r.m.n : Int))) ?_
 refine zza 7 (.v (.bool (decide ((r.m.n : Int) ≤ 4)))) ?_
 rcases Bool.eq_false_or_eq_true (decide ((r.m.n : Int) ≤ 4)) with hs11 | hs11
 ·refine zyl 8 (x := .v (.bool (decide ((r.m.n : Int) ≤ 4)))) (.v (.bool true)) (by rw [hs11]) ?_
  have qhs11 := of_decide_eq_true hs11
  refine zza 9 (.adr 1 2) ?_ (hw := w1 5 true 8)
  refine zzg 10 (.v r.d.v) ty22 zzj ?_ (hw := w1 5 true 8)
  refine zza 11 (.v (.int .i64 (r.d.n : Int))) ?_ (hw := w1 5 true 8)
  refine zza 12 (.v (.bool (decide ((r.d.n : Int) ≤ 4)))) ?_ (hw := w1 5 true 8)
  refine zza 13 (.v (.bool (decide ((r.d.n : Int) ≤ 4)))) ?_
  refine zza 2 (.v (.bool (decide ((r.d.n : Int) ≤ 4)))) ?_
  refine zzb 14 [(2, .v (.bool (decide ((r.d.n : Int) ≤ 4))))] [] ?_
  refine zzm (ret0 [.bool (decide ((r.d.n : Int) ≤ 4))] ⟨zzo, trivial⟩ fun u12 e13 => ?_)
  show _ = _
  unfold smR
  rw [hs11]
  rfl
 ·refine zyl 8 (x := .v (.bool (decide ((r.m.n : Int) ≤ 4)))) (.v (.bool false)) (by rw [hs11]) ?_
  have qhs11 := of_decide_eq_false hs11
  refine zzl 9 (uw 5 true false 8) ?_
  refine zzl 10 (uw 5 true false 8) ?_
  refine zzl 11 (uw 5 true false 8) ?_
  refine zzl 12 (uw 5 true false 8) ?_
  refine zza 13 (.v (.bool false)) ?_
  refine zza 2 (.v (.bool false)) ?_
  refine zzb 14 [(2, .v (.bool false))] [] ?_
  refine zzm (ret0 [.bool false] ⟨zzo, trivial⟩ fun u14 e15 => ?_)
  show _ = _
  unfold smR
  rw [hs11]
  rfl
theorem k_smallOn {u w : World} {a b : RL} (d : Dat u w) : Calls Tryz.prog 11 #[IV a b] w (Post u w fun v _ => v = .bool (smR a && smR b)) := by
 refine zzk (args := [.agg #[.bool a.s, .slice a.m.a a.m.n a.m.c, .slice a.d.a a.d.n a.d.c, .bool b.s, .slice b.m.a b.m.n b.m.c, .slice b.d.a b.d.n b.d.c]]) Tryz.func11 rfl Tryz.ntmps11 (rs := [.tmp 2]) Tryz.results11 (le_b rfl) (le_b rfl) d ?_
 refine sq9 ?_
 refine zzi 1 ⟨28, a.cs ++ b.cs⟩ ?_
 refine zza 2 (.v (.bool false)) ?_
 refine zzb 11 [(1, .adr 1 0)] [(1, ⟨28, a.cs ++ b.cs⟩)] ?_
 refine sq9 ?_
 refine zza 3 (.adr 1 0) ?_
 refine zzg 4 (.v (a.v)) ty26 zzd ?_
 refine zzf 5 55 [a.v] ?_
 intro w11 u11 e11 d11
 have k14 := k_smallRat (r := a) d11
 with_reducible refine Post.mono k14 ?_
 rintro _ u12 g13 rfl
 rcases Bool.eq_false_or_eq_true (smR a) with hs15 | hs15
 ·refine zyl 6 (x := .v (.bool (smR a))) (.v (.bool true)) (by rw [hs15]) ?_
  refine zza 7 (.adr 1 3) ?_ (hw := w1 3 true 6)
  refine zzg 8 (.v (b.v)) ty26 zzd ?_ (hw := w1 3 true 6)
  refine zzf 9 55 [b.v] ?_ (hw := w1 3 true 6)
  intro w16 u16 e16 d16
  have k19 := k_smallRat (r := b) d16
  with_reducible refine Post.mono k19 ?_
  rintro _ u17 g18 rfl
  refine zza 10 (.v (.bool (smR b))) ?_
  refine zza 2 (.v (.bool (smR b))) ?_
  refine zzb 11 [(2, .v (.bool (smR b)))] [] ?_
  refine zzm (ret0 [.bool (smR b)] ⟨zzo, trivial⟩ fun u20 e21 => ?_)
  show _ = _
  rw [hs15]
  rfl
 ·refine zyl 6 (x := .v (.bool (smR a))) (.v (.bool false)) (by rw [hs15]) ?_
  refine zzl 7 (uw 3 true false 6) ?_
  refine zzl 8 (uw 3 true false 6) ?_
  refine zzl 9 (uw 3 true false 6) ?_
  refine zza 10 (.v (.bool false)) ?_
  refine zza 2 (.v (.bool false)) ?_
  refine zzb 11 [(2, .v (.bool false))] [] ?_
  refine zzm (ret0 [.bool false] ⟨zzo, trivial⟩ fun u22 e23 => ?_)
  show _ = _
  rw [hs15]
  rfl
theorem k_ivDiv0 {u w : World} {a1 a2 b1 b2 : RL} {x1 x2 y1 y2 : Rat} {K L : Nat} (d : Dat u w) (ha1 : RatV u a1 x1 K) (ha2 : RatV u a2 x2 K) (hb1 : RatV u b1 y1 L) (hb2 : RatV u b2 y2 L) (h0 : Nt.sgI y1 y2 = 0) (hK : K ≤ 100000000) (hL : L ≤ 100000000) : Calls Tryz.prog 14 #[IV a1 a2, IV b1 b2] w (Post u w fun v _ => v = .tuple #[.agg #[.bool false, .slice none 0 0, .slice none 0 0, .bool false, .slice none 0 0, .slice none 0 0], .int .i64 3]) :=
 Post.mono (k_ivDiv d ha1 ha2 hb1 hb2 hK hL) fun v u' _ h => h.elim (fun h => h.2) (fun h => absurd h0 h.1)
set_option maxHeartbeats 1000000 in
theorem k_awake4 {u w : World} (d : Dat u w) : Calls Tryz.prog 12 #[] w (Post u w fun v _ => v = .bool true) := by
 refine zzk (args := []) Tryz.func12 rfl Tryz.ntmps12 (rs := [.tmp 0]) Tryz.results12 (le_b rfl) (le_b rfl) d ?_
 refine sq9 ?_
 refine zza 0 (.v (.bool false)) ?_
 refine zzb 40 [] [] ?_
 refine sq9 ?_
 refine zzf 5 41 [.int .i64 (-1)] ?_
 intro w11 u11 e11 d11
 have k16 := k_rqOf d11 (z := (-1)) (by omega) (by omega)
 with_reducible refine Post.mono k16 ?_
 rintro _ u14 g15 ⟨r12, rfl, h13⟩
 refine zzf 6 41 [.int .i64 2] ?_
 intro w17 u17 e17 d17
 have k22 := k_rqOf d17 (z := 2) (by omega) (by omega)
 with_reducible refine Post.mono k22 ?_
 rintro _ u20 g21 ⟨r18, rfl, h19⟩
 refine zzf 7 46 [r12.v, r18.v] ?_
 intro w23 u23 e23 d23
 have k30 := k_r4Make d23 (h13.ext (e17.trans (g21.ext.trans e23))).raw (h19.ext e23).raw (by omega)
 with_reducible refine Post.mono k30 ?_
 rintro _ u28 g29 ⟨r24, r26, rfl, h25, h27⟩
 refine zzf 8 41 [.int .i64 3] ?_
 intro w31 u31 e31 d31
 have k36 := k_rqOf d31 (z := 3) (by omega) (by omega)
 with_reducible refine Post.mono k36 ?_
 rintro _ u34 g35 ⟨r32, rfl, h33⟩
 refine zzf 9 41 [.int .i64 4] ?_
 intro w37 u37 e37 d37
 have k42 := k_rqOf d37 (z := 4) (by omega) (by omega)
 with_reducible refine Post.mono k42 ?_
 rintro _ u40 g41 ⟨r38, rfl, h39⟩
 refine zzf 10 46 [r32.v, r38.v] ?_
 intro w43 u43 e43 d43
 have k50 := k_r4Make d43 (h33.ext (e37.trans (g41.ext.trans e43))).raw (h39.ext e43).raw (by omega)
 with_reducible refine Post.mono k50 ?_
 rintro _ u48 g49 ⟨r44, r46, rfl, h45, h47⟩
 refine zzf 11 21 [.agg #[.bool r24.s, r24.m.v, r24.d.v, .bool r26.s, r26.m.v, r26.d.v], .agg #[.bool r44.s, r44.m.v, r44.d.v, .bool r46.s, r46.m.v, r46.d.v]] ?_
 intro w51 u51 e51 d51
 have k58 := k_ivMul d51 (h25.ext (e31.trans (g35.ext.trans (e37.trans (g41.ext.trans (e43.trans (g49.ext.trans e51))))))).raw (h27.ext (e31.trans (g35.ext.trans (e37.trans (g41.ext.trans (e43.trans (g49.ext.trans e51))))))).raw (h45.ext e51).raw (h47.ext e51).raw (by omega) (by omega)
 with_reducible refine Post.mono k58 ?_
 rintro _ u56 g57 ⟨r52, r54, rfl, h53, h55⟩
 refine zzi 1 ⟨28, [.bool false, .slice none 0 0, .slice none 0 0, .bool false, .slice none 0 0, .slice none 0 0]⟩ ?_
 refine zzh ⟨28, r52.cs ++ r54.cs⟩ ty28 ?_
 refine zzb 40 [(1, .adr 1 0)] [(1, ⟨28, r52.cs ++ r54.cs⟩)] ?_
 refine sq9 ?_
 refine zzf 12 41 [.int .i64 (-1)] ?_
 intro w59 u59 e59 d59
 have k64 := k_rqOf d59 (z := (-1)) (by omega) (by omega)
 with_reducible refine Post.mono k64 ?_
 rintro _ u62 g63 ⟨r60, rfl, h61⟩
 refine zzf 13 41 [.int .i64 2] ?_
 intro w65 u65 e65 d65
 have k70 := k_rqOf d65 (z := 2) (by omega) (by omega)
 with_reducible refine Post.mono k70 ?_
 rintro _ u68 g69 ⟨r66, rfl, h67⟩
 refine zzf 14 46 [r60.v, r66.v] ?_
 intro w71 u71 e71 d71
 have k78 := k_r4Make d71 (h61.ext (e65.trans (g69.ext.trans e71))).raw (h67.ext e71).raw (by omega)
 with_reducible refine Post.mono k78 ?_
 rintro _ u76 g77 ⟨r72, r74, rfl, h73, h75⟩
 refine zzf 15 23 [.agg #[.bool r72.s, r72.m.v, r72.d.v, .bool r74.s, r74.m.v, r74.d.v]] ?_
 intro w79 u79 e79 d79
 have k86 := k_ivSquare d79 (h73.ext e79).raw (h75.ext e79).raw (by omega)
 with_reducible refine Post.mono k86 ?_
 rintro _ u84 g85 ⟨r80, r82, rfl, h81, h83⟩
 refine zzi 2 ⟨28, [.bool false, .slice none 0 0, .slice none 0 0, .bool false, .slice none 0 0, .slice none 0 0]⟩ ?_
 refine zzh ⟨28, r80.cs ++ r82.cs⟩ ty28 ?_
 refine zzb 40 [(1, .adr 1 0), (2, .adr 2 0)] [(1, ⟨28, r52.cs ++ r54.cs⟩), (2, ⟨28, r80.cs ++ r82.cs⟩)] ?_
 refine zzc ?_
 refine zzx [0, 0, 2, 6, 15, 31, 63, 63, 0, 383, 1023] [(0, []), (8, []), (1, []), (2, []), (3, []), (4, []), (5, []), (6, []), (7, []), (9, []), (10, [])] (by kernel_rfl) (by kernel_rfl) ?_
 refine zzg 17 (.v (.agg #[.bool r52.s, r52.m.v, r52.d.v, .bool r54.s, r54.m.v, r54.d.v])) ty28 zzd ?_
 refine zzi 3 ⟨28, [.bool false, .slice none 0 0, .slice none 0 0, .bool false, .slice none 0 0, .slice none 0 0]⟩ ?_
 refine zzf 18 41 [.int .i64 (-1)] ?_
 intro w87 u87 e87 d87
 have k92 := k_rqOf d87 (z := (-1)) (by omega) (by omega)
 with_reducible refine Post.mono k92 ?_
 rintro _ u90 g91 ⟨r88, rfl, h89⟩
 refine zzf 19 41 [.int .i64 1] ?_
 intro w93 u93 e93 d93
 have k98 := k_rqOf d93 (z := 1) (by omega) (by omega)
 with_reducible refine Post.mono k98 ?_
 rintro _ u96 g97 ⟨r94, rfl, h95⟩
 refine zzf 20 46 [r88.v, r94.v] ?_
 intro w99 u99 e99 d99
 have k106 := k_r4Make d99 (h89.ext (e93.trans (g97.ext.trans e99))).raw (h95.ext e99).raw (by omega)
 with_reducible refine Post.mono k106 ?_
 rintro _ u104 g105 ⟨r100, r102, rfl, h101, h103⟩
 refine zzf 21 14 [.agg #[.bool r52.s, r52.m.v, r52.d.v, .bool r54.s, r54.m.v, r54.d.v], .agg #[.bool r100.s, r100.m.v, r100.d.v, .bool r102.s, r102.m.v, r102.d.v]] ?_
 intro w107 u107 e107 d107
 have k110 := k_ivDiv0 d107 (h53.ext (e59.trans (g63.ext.trans (e65.trans (g69.ext.trans (e71.trans (g77.ext.trans (e79.trans (g85.ext.trans (e87.trans (g91.ext.trans (e93.trans (g97.ext.trans (e99.trans (g105.ext.trans e107))))))))))))))).raw (h55.ext (e59.trans (g63.ext.trans (e65.trans (g69.ext.trans (e71.trans (g77.ext.trans (e79.trans (g85.ext.trans (e87.trans (g91.ext.trans (e93.trans (g97.ext.trans (e99.trans (g105.ext.trans e107))))))))))))))).raw (h101.ext e107).raw (h103.ext e107).raw (by decide +kernel) (by omega) (by omega)
 with_reducible refine Post.mono k110 ?_
 rintro _ u108 g109 rfl
 refine zza 16 (.v (.tuple #[.agg #[.bool false, .slice none 0 0, .slice none 0 0, .bool false, .slice none 0 0, .slice none 0 0], .int .i64 3])) ?_
 refine zza 22 (.v (.agg #[.bool false, .slice none 0 0, .slice none 0 0, .bool false, .slice none 0 0, .slice none 0 0])) ?_
 refine zza 23 (.v (.int .i64 3)) ?_
 refine zzh ⟨28, [.bool false, .slice none 0 0, .slice none 0 0, .bool false, .slice none 0 0, .slice none 0 0]⟩ ty28 ?_
 refine zza 4 (.v (.int .i64 3)) ?_
 refine zzb 40 [(1, .adr 1 0), (2, .adr 2 0), (4, .v (.int .i64 3))] [(1, ⟨28, r52.cs ++ r54.cs⟩), (2, ⟨28, r80.cs ++ r82.cs⟩)] ?_
 refine zzc ?_
 refine zzx [0, 1, 3, 7, 7, 23, 55, 127, 255, 511, 1023, 1023, 3071, 7167, 16383, 32767, 65535] [(0, []), (1, []), (2, []), (3, []), (4, []), (5, []), (6, []), (7, []), (8, []), (9, []), (10, []), (11, []), (12, []), (13, []), (14, []), (15, []), (16, [])] (by kernel_rfl) (by kernel_rfl) ?_
 refine zza 24 (.v (.int .i64 3)) ?_
 refine zza 25 (.v (.bool true)) ?_
 refine zza 26 (.v (.bool true)) ?_
 refine zzg 27 (.v (.agg #[.bool r52.s, r52.m.v, r52.d.v, .bool r54.s, r54.m.v, r54.d.v])) ty28 zzd ?_ (hw := w1 2 true 26)
 refine zzf 28 41 [.int .i64 (-4)] ?_ (hw := w1 2 true 26)
 intro w111 u111 e111 d111
 have k116 := k_rqOf d111 (z := (-4)) (by omega) (by omega)
 with_reducible refine Post.mono k116 ?_
 rintro _ u114 g115 ⟨r112, rfl, h113⟩
 refine zzf 29 41 [.int .i64 8] ?_ (hw := w1 2 true 26)
 intro w117 u117 e117 d117
 have k122 := k_rqOf d117 (z := 8) (by omega) (by omega)
 with_reducible refine Post.mono k122 ?_
 rintro _ u120 g121 ⟨r118, rfl, h119⟩
 refine zzf 30 46 [r112.v, r118.v] ?_ (hw := w1 2 true 26)
 intro w123 u123 e123 d123
 have k130 := k_r4Make d123 (h113.ext (e117.trans (g121.ext.trans e123))).raw (h119.ext e123).raw (by omega)
 with_reducible refine Post.mono k130 ?_
 rintro _ u128 g129 ⟨r124, r126, rfl, h125, h127⟩
 refine zzf 31 59 [.agg #[.bool r52.s, r52.m.v, r52.d.v, .bool r54.s, r54.m.v, r54.d.v], .agg #[.bool r124.s, r124.m.v, r124.d.v, .bool r126.s, r126.m.v, r126.d.v]] ?_ (hw := w1 2 true 26)
 intro w131 u131 e131 d131
 have k134 := k_r4Same d131 (h53.ext (e59.trans (g63.ext.trans (e65.trans (g69.ext.trans (e71.trans (g77.ext.trans (e79.trans (g85.ext.trans (e87.trans (g91.ext.trans (e93.trans (g97.ext.trans (e99.trans (g105.ext.trans (e107.trans (g109.ext.trans (e111.trans (g115.ext.trans (e117.trans (g121.ext.trans (e123.trans (g129.ext.trans e131))))))))))))))))))))))) (h55.ext (e59.trans (g63.ext.trans (e65.trans (g69.ext.trans (e71.trans (g77.ext.trans (e79.trans (g85.ext.trans (e87.trans (g91.ext.trans (e93.trans (g97.ext.trans (e99.trans (g105.ext.trans (e107.trans (g109.ext.trans (e111.trans (g115.ext.trans (e117.trans (g121.ext.trans (e123.trans (g129.ext.trans e131))))))))))))))))))))))) (h125.ext e131) (h127.ext e131)
 with_reducible refine Post.mono k134 ?_
 rintro _ u132 g133 rfl
 refine zza 32 (.v (.bool (decide ((Nt.lo4 ((Nt.lo (((-1) : Int) : Rat) ((2 : Int) : Rat)) * (Nt.lo ((3 : Int) : Rat) ((4 : Int) : Rat))) ((Nt.lo (((-1) : Int) : Rat) ((2 : Int) : Rat)) * (Nt.hi ((3 : Int) : Rat) ((4 : Int) : Rat))) ((Nt.hi (((-1) : Int) : Rat) ((2 : Int) : Rat)) * (Nt.lo ((3 : Int) : Rat) ((4 : Int) : Rat))) ((Nt.hi (((-1) : Int) : Rat) ((2 : Int) : Rat)) * (Nt.hi ((3 : Int) : Rat) ((4 : Int) : Rat)))) = (Nt.lo (((-4) : Int) : Rat) ((8 : Int) : Rat))) && decide ((Nt.hi4 ((Nt.lo (((-1) : Int) : Rat) ((2 : Int) : Rat)) * (Nt.lo ((3 : Int) : Rat) ((4 : Int) : Rat))) ((Nt.lo (((-1) : Int) : Rat) ((2 : Int) : Rat)) * (Nt.hi ((3 : Int) : Rat) ((4 : Int) : Rat))) ((Nt.hi (((-1) : Int) : Rat) ((2 : Int) : Rat)) * (Nt.lo ((3 : Int) : Rat) ((4 : Int) : Rat))) ((Nt.hi (((-1) : Int) : Rat) ((2 : Int) : Rat)) * (Nt.hi ((3 : Int) : Rat) ((4 : Int) : Rat)))) = (Nt.hi (((-4) : Int) : Rat) ((8 : Int) : Rat)))))) ?_
 refine zyl 33 (x := .v (.bool (decide ((Nt.lo4 ((Nt.lo (((-1) : Int) : Rat) ((2 : Int) : Rat)) * (Nt.lo ((3 : Int) : Rat) ((4 : Int) : Rat))) ((Nt.lo (((-1) : Int) : Rat) ((2 : Int) : Rat)) * (Nt.hi ((3 : Int) : Rat) ((4 : Int) : Rat))) ((Nt.hi (((-1) : Int) : Rat) ((2 : Int) : Rat)) * (Nt.lo ((3 : Int) : Rat) ((4 : Int) : Rat))) ((Nt.hi (((-1) : Int) : Rat) ((2 : Int) : Rat)) * (Nt.hi ((3 : Int) : Rat) ((4 : Int) : Rat)))) = (Nt.lo (((-4) : Int) : Rat) ((8 : Int) : Rat))) && decide ((Nt.hi4 ((Nt.lo (((-1) : Int) : Rat) ((2 : Int) : Rat)) * (Nt.lo ((3 : Int) : Rat) ((4 : Int) : Rat))) ((Nt.lo (((-1) : Int) : Rat) ((2 : Int) : Rat)) * (Nt.hi ((3 : Int) : Rat) ((4 : Int) : Rat))) ((Nt.hi (((-1) : Int) : Rat) ((2 : Int) : Rat)) * (Nt.lo ((3 : Int) : Rat) ((4 : Int) : Rat))) ((Nt.hi (((-1) : Int) : Rat) ((2 : Int) : Rat)) * (Nt.hi ((3 : Int) : Rat) ((4 : Int) : Rat)))) = (Nt.hi (((-4) : Int) : Rat) ((8 : Int) : Rat)))))) (.v (.bool true)) (by rw [show (decide ((Nt.lo4 ((Nt.lo (((-1) : Int) : Rat) ((2 : Int) : Rat)) * (Nt.lo ((3 : Int) : Rat) ((4 : Int) : Rat))) ((Nt.lo (((-1) : Int) : Rat) ((2 : Int) : Rat)) * (Nt.hi ((3 : Int) : Rat) ((4 : Int) : Rat))) ((Nt.hi (((-1) : Int) : Rat) ((2 : Int) : Rat)) * (Nt.lo ((3 : Int) : Rat) ((4 : Int) : Rat))) ((Nt.hi (((-1) : Int) : Rat) ((2 : Int) : Rat)) * (Nt.hi ((3 : Int) : Rat) ((4 : Int) : Rat)))) = (Nt.lo (((-4) : Int) : Rat) ((8 : Int) : Rat))) && decide ((Nt.hi4 ((Nt.lo (((-1) : Int) : Rat) ((2 : Int) : Rat)) * (Nt.lo ((3 : Int) : Rat) ((4 : Int) : Rat))) ((Nt.lo (((-1) : Int) : Rat) ((2 : Int) : Rat)) * (Nt.hi ((3 : Int) : Rat) ((4 : Int) : Rat))) ((Nt.hi (((-1) : Int) : Rat) ((2 : Int) : Rat)) * (Nt.lo ((3 : Int) : Rat) ((4 : Int) : Rat))) ((Nt.hi (((-1) : Int) : Rat) ((2 : Int) : Rat)) * (Nt.hi ((3 : Int) : Rat) ((4 : Int) : Rat)))) = (Nt.hi (((-4) : Int) : Rat) ((8 : Int) : Rat)))) = true from (by decide +kernel)]) ?_
 refine zzg 34 (.v (.agg #[.bool r80.s, r80.m.v, r80.d.v, .bool r82.s, r82.m.v, r82.d.v])) ty28 zzd ?_ (hw := w1 9 true 33)
 refine zzf 35 41 [.int .i64 0] ?_ (hw := w1 9 true 33)
 intro w136 u136 e136 d136
 have k141 := k_rqOf d136 (z := 0) (by omega) (by omega)
 with_reducible refine Post.mono k141 ?_
 rintro _ u139 g140 ⟨r137, rfl, h138⟩
 refine zzf 36 41 [.int .i64 4] ?_ (hw := w1 9 true 33)
 intro w142 u142 e142 d142
 have k147 := k_rqOf d142 (z := 4) (by omega) (by omega)
 with_reducible refine Post.mono k147 ?_
 rintro _ u145 g146 ⟨r143, rfl, h144⟩
 refine zzf 37 46 [r137.v, r143.v] ?_ (hw := w1 9 true 33)
 intro w148 u148 e148 d148
 have k155 := k_r4Make d148 (h138.ext (e142.trans (g146.ext.trans e148))).raw (h144.ext e148).raw (by omega)
 with_reducible refine Post.mono k155 ?_
 rintro _ u153 g154 ⟨r149, r151, rfl, h150, h152⟩
 refine zzf 38 59 [.agg #[.bool r80.s, r80.m.v, r80.d.v, .bool r82.s, r82.m.v, r82.d.v], .agg #[.bool r149.s, r149.m.v, r149.d.v, .bool r151.s, r151.m.v, r151.d.v]] ?_ (hw := w1 9 true 33)
 intro w156 u156 e156 d156
 have k159 := k_r4Same d156 (h81.ext (e87.trans (g91.ext.trans (e93.trans (g97.ext.trans (e99.trans (g105.ext.trans (e107.trans (g109.ext.trans (e111.trans (g115.ext.trans (e117.trans (g121.ext.trans (e123.trans (g129.ext.trans (e131.trans (g133.ext.trans (e136.trans (g140.ext.trans (e142.trans (g146.ext.trans (e148.trans (g154.ext.trans e156))))))))))))))))))))))) (h83.ext (e87.trans (g91.ext.trans (e93.trans (g97.ext.trans (e99.trans (g105.ext.trans (e107.trans (g109.ext.trans (e111.trans (g115.ext.trans (e117.trans (g121.ext.trans (e123.trans (g129.ext.trans (e131.trans (g133.ext.trans (e136.trans (g140.ext.trans (e142.trans (g146.ext.trans (e148.trans (g154.ext.trans e156))))))))))))))))))))))) (h150.ext e156) (h152.ext e156)
 with_reducible refine Post.mono k159 ?_
 rintro _ u157 g158 rfl
 refine zza 39 (.v (.bool (decide ((if Nt.sgI (Nt.lo (((-1) : Int) : Rat) ((2 : Int) : Rat)) (Nt.hi (((-1) : Int) : Rat) ((2 : Int) : Rat)) = 0 then 0 else Nt.lo ((Nt.lo (((-1) : Int) : Rat) ((2 : Int) : Rat)) * (Nt.lo (((-1) : Int) : Rat) ((2 : Int) : Rat))) ((Nt.hi (((-1) : Int) : Rat) ((2 : Int) : Rat)) * (Nt.hi (((-1) : Int) : Rat) ((2 : Int) : Rat)))) = (Nt.lo ((0 : Int) : Rat) ((4 : Int) : Rat))) && decide ((Nt.hi ((Nt.lo (((-1) : Int) : Rat) ((2 : Int) : Rat)) * (Nt.lo (((-1) : Int) : Rat) ((2 : Int) : Rat))) ((Nt.hi (((-1) : Int) : Rat) ((2 : Int) : Rat)) * (Nt.hi (((-1) : Int) : Rat) ((2 : Int) : Rat)))) = (Nt.hi ((0 : Int) : Rat) ((4 : Int) : Rat)))))) ?_
 refine zza 0 (.v (.bool (decide ((if Nt.sgI (Nt.lo (((-1) : Int) : Rat) ((2 : Int) : Rat)) (Nt.hi (((-1) : Int) : Rat) ((2 : Int) : Rat)) = 0 then 0 else Nt.lo ((Nt.lo (((-1) : Int) : Rat) ((2 : Int) : Rat)) * (Nt.lo (((-1) : Int) : Rat) ((2 : Int) : Rat))) ((Nt.hi (((-1) : Int) : Rat) ((2 : Int) : Rat)) * (Nt.hi (((-1) : Int) : Rat) ((2 : Int) : Rat)))) = (Nt.lo ((0 : Int) : Rat) ((4 : Int) : Rat))) && decide ((Nt.hi ((Nt.lo (((-1) : Int) : Rat) ((2 : Int) : Rat)) * (Nt.lo (((-1) : Int) : Rat) ((2 : Int) : Rat))) ((Nt.hi (((-1) : Int) : Rat) ((2 : Int) : Rat)) * (Nt.hi (((-1) : Int) : Rat) ((2 : Int) : Rat)))) = (Nt.hi ((0 : Int) : Rat) ((4 : Int) : Rat)))))) ?_
 refine zzb 40 [(0, .v (.bool (decide ((if Nt.sgI (Nt.lo (((-1) : Int) : Rat) ((2 : Int) : Rat)) (Nt.hi (((-1) : Int) : Rat) ((2 : Int) : Rat)) = 0 then 0 else Nt.lo ((Nt.lo (((-1) : Int) : Rat) ((2 : Int) : Rat)) * (Nt.lo (((-1) : Int) : Rat) ((2 : Int) : Rat))) ((Nt.hi (((-1) : Int) : Rat) ((2 : Int) : Rat)) * (Nt.hi (((-1) : Int) : Rat) ((2 : Int) : Rat)))) = (Nt.lo ((0 : Int) : Rat) ((4 : Int) : Rat))) && decide ((Nt.hi ((Nt.lo (((-1) : Int) : Rat) ((2 : Int) : Rat)) * (Nt.lo (((-1) : Int) : Rat) ((2 : Int) : Rat))) ((Nt.hi (((-1) : Int) : Rat) ((2 : Int) : Rat)) * (Nt.hi (((-1) : Int) : Rat) ((2 : Int) : Rat)))) = (Nt.hi ((0 : Int) : Rat) ((4 : Int) : Rat))))))] [] ?_
 refine zzm (ret0 [.bool (decide ((if Nt.sgI (Nt.lo (((-1) : Int) : Rat) ((2 : Int) : Rat)) (Nt.hi (((-1) : Int) : Rat) ((2 : Int) : Rat)) = 0 then 0 else Nt.lo ((Nt.lo (((-1) : Int) : Rat) ((2 : Int) : Rat)) * (Nt.lo (((-1) : Int) : Rat) ((2 : Int) : Rat))) ((Nt.hi (((-1) : Int) : Rat) ((2 : Int) : Rat)) * (Nt.hi (((-1) : Int) : Rat) ((2 : Int) : Rat)))) = (Nt.lo ((0 : Int) : Rat) ((4 : Int) : Rat))) && decide ((Nt.hi ((Nt.lo (((-1) : Int) : Rat) ((2 : Int) : Rat)) * (Nt.lo (((-1) : Int) : Rat) ((2 : Int) : Rat))) ((Nt.hi (((-1) : Int) : Rat) ((2 : Int) : Rat)) * (Nt.hi (((-1) : Int) : Rat) ((2 : Int) : Rat)))) = (Nt.hi ((0 : Int) : Rat) ((4 : Int) : Rat))))] ⟨zzo, trivial⟩ fun u160 e161 => ?_)
 show Value.bool _ = Value.bool _
 rw [show (decide ((if Nt.sgI (Nt.lo (((-1) : Int) : Rat) ((2 : Int) : Rat)) (Nt.hi (((-1) : Int) : Rat) ((2 : Int) : Rat)) = 0 then 0 else Nt.lo ((Nt.lo (((-1) : Int) : Rat) ((2 : Int) : Rat)) * (Nt.lo (((-1) : Int) : Rat) ((2 : Int) : Rat))) ((Nt.hi (((-1) : Int) : Rat) ((2 : Int) : Rat)) * (Nt.hi (((-1) : Int) : Rat) ((2 : Int) : Rat)))) = (Nt.lo ((0 : Int) : Rat) ((4 : Int) : Rat))) && decide ((Nt.hi ((Nt.lo (((-1) : Int) : Rat) ((2 : Int) : Rat)) * (Nt.lo (((-1) : Int) : Rat) ((2 : Int) : Rat))) ((Nt.hi (((-1) : Int) : Rat) ((2 : Int) : Rat)) * (Nt.hi (((-1) : Int) : Rat) ((2 : Int) : Rat)))) = (Nt.hi ((0 : Int) : Rat) ((4 : Int) : Rat)))) = true from by decide +kernel]
namespace Nt
theorem lo4_eq (a b c d : Rat) : lo (lo a b) (lo c d) = lo4 a b c d := by unfold lo4 lo; grind
theorem hi4_eq (a b c d : Rat) : hi (hi a b) (hi c d) = hi4 a b c d := by unfold hi4 hi; grind
end Nt
theorem k_r4Add {u w : World} {a1 a2 : RL} {x1 x2 : Rat} {b1 b2 : RL} {y1 y2 : Rat} {K L : Nat} (d : Dat u w) (ha1 : RatV u a1 x1 K) (ha2 : RatV u a2 x2 K) (hb1 : RatV u b1 y1 L) (hb2 : RatV u b2 y2 L) (hK : K ≤ 40000000) (hL : L ≤ 40000000) : Calls Tryz.prog 75 #[IV a1 a2, IV b1 b2] w (Post u w fun v u' => ∃ p q : RL, v = IV p q ∧ RatN u' p (Nt.lo x1 x2 + Nt.lo y1 y2) (K + L + 2) ∧ RatN u' q (Nt.hi x1 x2 + Nt.hi y1 y2) (K + L + 2)) := by
 refine zzk (args := [.agg #[.bool a1.s, .slice a1.m.a a1.m.n a1.m.c, .slice a1.d.a a1.d.n a1.d.c, .bool a2.s, .slice a2.m.a a2.m.n a2.m.c, .slice a2.d.a a2.d.n a2.d.c], .agg #[.bool b1.s, .slice b1.m.a b1.m.n b1.m.c, .slice b1.d.a b1.d.n b1.d.c, .bool b2.s, .slice b2.m.a b2.m.n b2.m.c, .slice b2.d.a b2.d.n b2.d.c]]) Tryz.func75 rfl Tryz.ntmps75 (rs := [.cell 4 28]) Tryz.results75 (le_b rfl) (le_b rfl) d ?_
 refine sq9 ?_
 refine zzi 2 ⟨28, a1.cs ++ a2.cs⟩ ?_
 refine zzi 3 ⟨28, b1.cs ++ b2.cs⟩ ?_
 refine zzi 4 ⟨28, [.bool false, .slice none 0 0, .slice none 0 0, .bool false, .slice none 0 0, .slice none 0 0]⟩ ?_
 refine zzb 20 [(2, .adr 2 0), (3, .adr 3 0), (4, .adr 4 0)] [(2, ⟨28, a1.cs ++ a2.cs⟩), (3, ⟨28, b1.cs ++ b2.cs⟩), (4, ⟨28, [.bool false, .slice none 0 0, .slice none 0 0, .bool false, .slice none 0 0, .slice none 0 0]⟩)] ?_
 refine zzc ?_
 refine zzx [0, 1, 0, 7, 15, 31] [(0, []), (2, []), (1, []), (3, []), (4, []), (5, [])] (by kernel_rfl) (by kernel_rfl) ?_
 refine zzg 5 (.v (.agg #[.bool a1.s, a1.m.v, a1.d.v, .bool a2.s, a2.m.v, a2.d.v])) ty28 zzd ?_
 refine zzg 7 (.v (.agg #[.bool b1.s, b1.m.v, b1.d.v, .bool b2.s, b2.m.v, b2.d.v])) ty28 zzd ?_
 refine zzf 6 69 [.agg #[.bool a1.s, a1.m.v, a1.d.v, .bool a2.s, a2.m.v, a2.d.v]] ?_
 intro w11 u11 e11 d11
 have k18 := k_r4Trim d11 (ha1.ext e11) (ha2.ext e11) (by omega)
 with_reducible refine Post.mono k18 ?_
 rintro _ u16 g17 ⟨r12, r14, rfl, h13, h15⟩
 refine zzf 8 69 [.agg #[.bool b1.s, b1.m.v, b1.d.v, .bool b2.s, b2.m.v, b2.d.v]] ?_
 intro w19 u19 e19 d19
 have k26 := k_r4Trim d19 (hb1.ext (e11.trans (g17.ext.trans e19))) (hb2.ext (e11.trans (g17.ext.trans e19))) (by omega)
 with_reducible refine Post.mono k26 ?_
 rintro _ u24 g25 ⟨r20, r22, rfl, h21, h23⟩
 refine zzh ⟨28, r12.cs ++ r14.cs⟩ ty28 ?_
 refine zzh ⟨28, r20.cs ++ r22.cs⟩ ty28 ?_
 refine zzb 20 [(2, .adr 2 0), (3, .adr 3 0), (4, .adr 4 0)] [(2, ⟨28, r12.cs ++ r14.cs⟩), (3, ⟨28, r20.cs ++ r22.cs⟩), (4, ⟨28, [.bool false, .slice none 0 0, .slice none 0 0, .bool false, .slice none 0 0, .slice none 0 0]⟩)] ?_
 refine zzc ?_
 refine zzx [0, 1, 0, 4, 15, 0, 32, 0, 128, 511, 1023, 2047] [(0, []), (1, []), (2, []), (3, []), (5, []), (6, []), (7, []), (8, []), (4, []), (9, []), (10, []), (11, [])] (by kernel_rfl) (by kernel_rfl) ?_
 refine zza 9 (.adr 2 0) ?_
 refine zzg 10 (.v (r12.v)) ty26 zzd ?_
 refine zza 11 (.adr 3 0) ?_
 refine zzg 12 (.v (r20.v)) ty26 zzd ?_
 refine zza 14 (.adr 2 3) ?_
 refine zzg 15 (.v (r14.v)) ty26 zzd ?_
 refine zza 16 (.adr 3 3) ?_
 refine zzg 17 (.v (r22.v)) ty26 zzd ?_
 refine zzf 13 18 [r12.v, r20.v] ?_
 intro w27 u27 e27 d27
 have k32 := k_rqAdd d27 (h13.ext (e19.trans (g25.ext.trans e27))).raw (h21.ext e27).raw (by omega) (by omega)
 with_reducible refine Post.mono k32 ?_
 rintro _ u30 g31 ⟨r28, rfl, h29⟩
 refine zzf 18 18 [r14.v, r22.v] ?_
 intro w33 u33 e33 d33
 have k38 := k_rqAdd d33 (h15.ext (e19.trans (g25.ext.trans (e27.trans (g31.ext.trans e33))))).raw (h23.ext (e27.trans (g31.ext.trans e33))).raw (by omega) (by omega)
 with_reducible refine Post.mono k38 ?_
 rintro _ u36 g37 ⟨r34, rfl, h35⟩
 refine zza 19 (.v (.agg #[.bool r28.s, r28.m.v, r28.d.v, .bool r34.s, r34.m.v, r34.d.v])) ?_
 refine zzh ⟨28, r28.cs ++ r34.cs⟩ ty28 ?_
 refine zzb 20 [(4, .adr 4 0)] [(4, ⟨28, r28.cs ++ r34.cs⟩)] ?_
 refine zzm (ret0 [.agg #[.bool r28.s, .slice r28.m.a r28.m.n r28.m.c, .slice r28.d.a r28.d.n r28.d.c, .bool r34.s, .slice r34.m.a r34.m.n r34.m.c, .slice r34.d.a r34.d.n r34.d.c]] ⟨zzp ty28 zzd, trivial⟩ fun u39 e40 => ?_)
 refine ⟨r28, r34, rfl, RatN.more (K := (K + L + 2)) ?_ (by omega), RatN.more (K := (K + L + 2)) ?_ (by omega)⟩
 ·exact (h29.ext (e33.trans (g37.ext.trans e40)))
 ·exact (h35.ext e40)
theorem k_r4Mul {u w : World} {a1 a2 : RL} {x1 x2 : Rat} {b1 b2 : RL} {y1 y2 : Rat} {K L : Nat} (d : Dat u w) (ha1 : RatV u a1 x1 K) (ha2 : RatV u a2 x2 K) (hb1 : RatV u b1 y1 L) (hb2 : RatV u b2 y2 L) (hK : K ≤ 40000000) (hL : L ≤ 40000000) : Calls Tryz.prog 77 #[IV a1 a2, IV b1 b2] w (Post u w fun v u' => ∃ p q : RL, v = IV p q ∧ RatN u' p (Nt.lo4 (x1 * y1) (x1 * y2) (x2 * y1) (x2 * y2)) (K + L + 1) ∧ RatN u' q (Nt.hi4 (x1 * y1) (x1 * y2) (x2 * y1) (x2 * y2)) (K + L + 1)) := by
 refine zzk (args := [.agg #[.bool a1.s, .slice a1.m.a a1.m.n a1.m.c, .slice a1.d.a a1.d.n a1.d.c, .bool a2.s, .slice a2.m.a a2.m.n a2.m.c, .slice a2.d.a a2.d.n a2.d.c], .agg #[.bool b1.s, .slice b1.m.a b1.m.n b1.m.c, .slice b1.d.a b1.d.n b1.d.c, .bool b2.s, .slice b2.m.a b2.m.n b2.m.c, .slice b2.d.a b2.d.n b2.d.c]]) Tryz.func77 rfl Tryz.ntmps77 (rs := [.cell 4 28]) Tryz.results77 (le_b rfl) (le_b rfl) d ?_
 refine sq9 ?_
 refine zzi 2 ⟨28, a1.cs ++ a2.cs⟩ ?_
 refine zzi 3 ⟨28, b1.cs ++ b2.cs⟩ ?_
 refine zzi 4 ⟨28, [.bool false, .slice none 0 0, .slice none 0 0, .bool false, .slice none 0 0, .slice none 0 0]⟩ ?_
 refine zzb 44 [(2, .adr 2 0), (3, .adr 3 0), (4, .adr 4 0)] [(2, ⟨28, a1.cs ++ a2.cs⟩), (3, ⟨28, b1.cs ++ b2.cs⟩), (4, ⟨28, [.bool false, .slice none 0 0, .slice none 0 0, .bool false, .slice none 0 0, .slice none 0 0]⟩)] ?_
 refine zzc ?_
 refine zzx [0, 1, 0, 4, 15, 0, 32, 0, 128, 511, 0, 1024, 0, 4096, 16383, 0, 32768, 0, 131072, 524287, 0, 0, 0, 0, 16777215, 33554431, 67108863, 134217727] [(0, []), (1, []), (2, []), (3, []), (5, []), (6, []), (7, []), (8, []), (10, []), (11, []), (12, []), (13, []), (15, []), (16, []), (17, []), (18, []), (20, []), (21, []), (22, []), (23, []), (4, []), (9, []), (14, []), (19, []), (24, []), (25, []), (26, []), (27, [])] (by kernel_rfl) (by kernel_rfl) ?_
 refine zza 9 (.adr 2 0) ?_
 refine zzg 10 (.v (a1.v)) ty26 zzd ?_
 refine zza 11 (.adr 3 0) ?_
 refine zzg 12 (.v (b1.v)) ty26 zzd ?_
 refine zza 14 (.adr 2 0) ?_
 refine zzg 15 (.v (a1.v)) ty26 zzd ?_
 refine zza 16 (.adr 3 3) ?_
 refine zzg 17 (.v (b2.v)) ty26 zzd ?_
 refine zza 19 (.adr 2 3) ?_
 refine zzg 20 (.v (a2.v)) ty26 zzd ?_
 refine zza 21 (.adr 3 0) ?_
 refine zzg 22 (.v (b1.v)) ty26 zzd ?_
 refine zza 24 (.adr 2 3) ?_
 refine zzg 25 (.v (a2.v)) ty26 zzd ?_
 refine zza 26 (.adr 3 3) ?_
 refine zzg 27 (.v (b2.v)) ty26 zzd ?_
 refine zzi 5 ⟨26, [.bool false, .slice none 0 0, .slice none 0 0]⟩ ?_
 refine zzi 6 ⟨26, [.bool false, .slice none 0 0, .slice none 0 0]⟩ ?_
 refine zzi 7 ⟨26, [.bool false, .slice none 0 0, .slice none 0 0]⟩ ?_
 refine zzi 8 ⟨26, [.bool false, .slice none 0 0, .slice none 0 0]⟩ ?_
 refine zzf 13 22 [a1.v, b1.v] ?_
 intro w11 u11 e11 d11
 have k16 := k_rqMul d11 (ha1.ext e11) (hb1.ext e11) (by omega) (by omega)
 with_reducible refine Post.mono k16 ?_
 rintro _ u14 g15 ⟨r12, rfl, h13⟩
 refine zzf 18 22 [a1.v, b2.v] ?_
 intro w17 u17 e17 d17
 have k22 := k_rqMul d17 (ha1.ext (e11.trans (g15.ext.trans e17))) (hb2.ext (e11.trans (g15.ext.trans e17))) (by omega) (by omega)
 with_reducible refine Post.mono k22 ?_
 rintro _ u20 g21 ⟨r18, rfl, h19⟩
 refine zzf 23 22 [a2.v, b1.v] ?_
 intro w23 u23 e23 d23
 have k28 := k_rqMul d23 (ha2.ext (e11.trans (g15.ext.trans (e17.trans (g21.ext.trans e23))))) (hb1.ext (e11.trans (g15.ext.trans (e17.trans (g21.ext.trans e23))))) (by omega) (by omega)
 with_reducible refine Post.mono k28 ?_
 rintro _ u26 g27 ⟨r24, rfl, h25⟩
 refine zzf 28 22 [a2.v, b2.v] ?_
 intro w29 u29 e29 d29
 have k34 := k_rqMul d29 (ha2.ext (e11.trans (g15.ext.trans (e17.trans (g21.ext.trans (e23.trans (g27.ext.trans e29))))))) (hb2.ext (e11.trans (g15.ext.trans (e17.trans (g21.ext.trans (e23.trans (g27.ext.trans e29))))))) (by omega) (by omega)
 with_reducible refine Post.mono k34 ?_
 rintro _ u32 g33 ⟨r30, rfl, h31⟩
 refine zzh ⟨26, r12.cs⟩ ty26 ?_
 refine zzh ⟨26, r18.cs⟩ ty26 ?_
 refine zzh ⟨26, r24.cs⟩ ty26 ?_
 refine zzh ⟨26, r30.cs⟩ ty26 ?_
 refine zzb 44 [(4, .adr 4 0), (5, .adr 5 0), (6, .adr 6 0), (7, .adr 7 0), (8, .adr 8 0)] [(4, ⟨28, [.bool false, .slice none 0 0, .slice none 0 0, .bool false, .slice none 0 0, .slice none 0 0]⟩), (5, ⟨26, r12.cs⟩), (6, ⟨26, r18.cs⟩), (7, ⟨26, r24.cs⟩), (8, ⟨26, r30.cs⟩)] ?_
 refine zzc ?_
 refine zzx [0, 0, 3, 0, 0, 31, 63, 0, 0, 511, 0, 0, 4095, 8191, 16383, 32767] [(0, []), (1, []), (3, []), (4, []), (7, []), (8, []), (10, []), (11, []), (2, []), (5, []), (6, []), (9, []), (12, []), (13, []), (14, []), (15, [])] (by kernel_rfl) (by kernel_rfl) ?_
 refine zzg 29 (.v (r12.v)) ty26 zzd ?_
 refine zzg 30 (.v (r18.v)) ty26 zzd ?_
 refine zzg 32 (.v (r24.v)) ty26 zzd ?_
 refine zzg 33 (.v (r30.v)) ty26 zzd ?_
 refine zzg 36 (.v (r12.v)) ty26 zzd ?_
 refine zzg 37 (.v (r18.v)) ty26 zzd ?_
 refine zzg 39 (.v (r24.v)) ty26 zzd ?_
 refine zzg 40 (.v (r30.v)) ty26 zzd ?_
 refine zzf 31 130 [r12.v, r18.v] ?_
 intro w35 u35 e35 d35
 have k40 := k_rqMin d35 (h13.ext (e17.trans (g21.ext.trans (e23.trans (g27.ext.trans (e29.trans (g33.ext.trans e35))))))).raw (h19.ext (e23.trans (g27.ext.trans (e29.trans (g33.ext.trans e35))))).raw (by omega) (by omega)
 with_reducible refine Post.mono k40 ?_
 rintro _ u38 g39 ⟨r36, rfl, h37⟩
 refine zzf 34 130 [r24.v, r30.v] ?_
 intro w41 u41 e41 d41
 have k46 := k_rqMin d41 (h25.ext (e29.trans (g33.ext.trans (e35.trans (g39.ext.trans e41))))).raw (h31.ext (e35.trans (g39.ext.trans e41))).raw (by omega) (by omega)
 with_reducible refine Post.mono k46 ?_
 rintro _ u44 g45 ⟨r42, rfl, h43⟩
 refine zzf 35 130 [r36.v, r42.v] ?_
 intro w47 u47 e47 d47
 have k52 := k_rqMin d47 (h37.ext (e41.trans (g45.ext.trans e47))).raw (h43.ext e47).raw (by omega) (by omega)
 with_reducible refine Post.mono k52 ?_
 rintro _ u50 g51 ⟨r48, rfl, h49⟩
 refine zzf 38 129 [r12.v, r18.v] ?_
 intro w53 u53 e53 d53
 have k58 := k_rqMax d53 (h13.ext (e17.trans (g21.ext.trans (e23.trans (g27.ext.trans (e29.trans (g33.ext.trans (e35.trans (g39.ext.trans (e41.trans (g45.ext.trans (e47.trans (g51.ext.trans e53))))))))))))).raw (h19.ext (e23.trans (g27.ext.trans (e29.trans (g33.ext.trans (e35.trans (g39.ext.trans (e41.trans (g45.ext.trans (e47.trans (g51.ext.trans e53))))))))))).raw (by omega) (by omega)
 with_reducible refine Post.mono k58 ?_
 rintro _ u56 g57 ⟨r54, rfl, h55⟩
 refine zzf 41 129 [r24.v, r30.v] ?_
 intro w59 u59 e59 d59
 have k64 := k_rqMax d59 (h25.ext (e29.trans (g33.ext.trans (e35.trans (g39.ext.trans (e41.trans (g45.ext.trans (e47.trans (g51.ext.trans (e53.trans (g57.ext.trans e59))))))))))).raw (h31.ext (e35.trans (g39.ext.trans (e41.trans (g45.ext.trans (e47.trans (g51.ext.trans (e53.trans (g57.ext.trans e59))))))))).raw (by omega) (by omega)
 with_reducible refine Post.mono k64 ?_
 rintro _ u62 g63 ⟨r60, rfl, h61⟩
 refine zzf 42 129 [r54.v, r60.v] ?_
 intro w65 u65 e65 d65
 have k70 := k_rqMax d65 (h55.ext (e59.trans (g63.ext.trans e65))).raw (h61.ext e65).raw (by omega) (by omega)
 with_reducible refine Post.mono k70 ?_
 rintro _ u68 g69 ⟨r66, rfl, h67⟩
 refine zza 43 (.v (.agg #[.bool r48.s, r48.m.v, r48.d.v, .bool r66.s, r66.m.v, r66.d.v])) ?_
 refine zzh ⟨28, r48.cs ++ r66.cs⟩ ty28 ?_
 refine zzb 44 [(4, .adr 4 0)] [(4, ⟨28, r48.cs ++ r66.cs⟩)] ?_
 refine zzm (ret0 [.agg #[.bool r48.s, .slice r48.m.a r48.m.n r48.m.c, .slice r48.d.a r48.d.n r48.d.c, .bool r66.s, .slice r66.m.a r66.m.n r66.m.c, .slice r66.d.a r66.d.n r66.d.c]] ⟨zzp ty28 zzd, trivial⟩ fun u71 e72 => ?_)
 refine ⟨r48, r66, rfl, RatN.more (K := (max (max (K + L + 1) (K + L + 1)) (max (K + L + 1) (K + L + 1)))) ?_ (by omega), RatN.more (K := (max (max (K + L + 1) (K + L + 1)) (max (K + L + 1) (K + L + 1)))) ?_ (by omega)⟩
 ·rw [← Nt.lo4_eq]; exact (h49.ext (e53.trans (g57.ext.trans (e59.trans (g63.ext.trans (e65.trans (g69.ext.trans e72)))))))
 ·rw [← Nt.hi4_eq]; exact (h67.ext e72)
def St.own (S : St) (d : Tmp) (V : Vr) (n c : Nat) : St := ⟨S.n, upd S.reg d (some (.slc d 0 n c)), upd S.var d (some V)⟩
def hide (u w' : World) : World := { u with heap := u.heap ++ Array.replicate (w'.heap.size - u.heap.size) hidO }
section
variable {P : Program} {ops : Array Oper} {w0 : Base} {u0 : World} {S T : St} {B : Tmp → Nat} {a : Act} {w w' u u' : World} {o : Oper} {p : List Tmp} {seq : Bool} {rest : List (Oper × List Tmp)} {K : St → World → Prop}
theorem hide_size (h : u.heap.size ≤ w'.heap.size) : (hide u w').heap.size = w'.heap.size := by simp [hide]; omega
theorem hide_old {b : Nat} (h : b < u.heap.size) : (hide u w').heap[b]? = u.heap[b]? := by
 simp only [hide]; rw [Array.getElem?_append_left h]
theorem hide_new {b : Nat} (h : u.heap.size ≤ b) (h2 : b < w'.heap.size) : (hide u w').heap[b]? = some hidO := by
 simp only [hide]; rw [Array.getElem?_append_right h, Array.getElem?_replicate, if_pos (by omega)]
theorem hide_grow (h : u.heap.size ≤ w'.heap.size) : Grow u (hide u w') := ⟨by rw [hide_size h]; exact h, fun b hb => hide_old hb⟩
theorem unpub_spec_reg {pubs : List Tmp} {r : Tmp} {x : SV} (h : (S.unpub pubs).reg r = some x) : S.reg r = some x ∧ r ∉ pubs := by
 simp only [St.unpub] at h
 cases e : pubs.contains r with
 | true => rw [e] at h; cases h
 | false => rw [e] at h; exact ⟨h, fun hm => by rw [List.contains_iff_mem.2 hm] at e; cases e⟩
theorem unpub_spec_var {pubs : List Tmp} {r : Tmp} {x : Vr} (h : (S.unpub pubs).var r = some x) : S.var r = some x ∧ r ∉ pubs := by
 simp only [St.unpub] at h
 cases e : pubs.contains r with
 | true => rw [e] at h; cases h
 | false => rw [e] at h; exact ⟨h, fun hm => by rw [List.contains_iff_mem.2 hm] at e; cases e⟩
theorem Rep.grown (h : Rep w0 u0 S B a w u) {pubs : List Tmp} (hno : NoAt S pubs) {row : Option Nat} (hrow : ∀ b, row = some b → ∃ t ∈ pubs, t < S.n ∧ ∃ V, S.var t = some V ∧ B t = b) (hg : w.grownBy w' row)
  {d : Tmp} {V : Vr} {g n c : Nat} (hd : d < S.n) (hdv : S.var d = none ∨ d ∈ pubs) (hgv : w'.heap[g]? = some (.cells V.cs.toArray V.ty (0, 0))) (hgo : row = some g ∨ g = w.heap.size) :
  Rep w0 u0 ((S.unpub pubs).own d V n c) (setB B d g) (a.put (some d) (.slice (some ⟨g, 0, none⟩) n c)) w' (hide u w') := by
 have hus : u.heap.size = w.heap.size := h.dat.size
 have hsz : u.heap.size ≤ w'.heap.size := by rw [hus]; exact hg.size
 have hrowu : ∀ b, row = some b → u.heap[b]? = some hidO ∧ u0.heap.size ≤ b ∧ b < w.heap.size := fun b hb => by
  obtain ⟨t, _, hlt, V', hV, rfl⟩ := hrow b hb
  exact ⟨(h.var t V' hV).2.1, (h.var t V' hV).2.2.1 hlt, h.lt hV⟩
 have hat : ∀ r x, S.reg r = some x → r ∉ pubs → x.at? ≠ some d := fun r x hx hr e => by
  obtain ⟨V', hV'⟩ := h.wf.reg r x d hx e
  rcases hdv with hdv | hdv
  ·rw [hdv] at hV'; cases hV'
  ·exact hr (hno r x d hx e hdv)
 refine ⟨⟨fun r x hx => ?_, by rw [Act.put_size]; exact h.regs.size⟩, ⟨fun r x t hx ht => ?_⟩, by rw [put_defers]; exact h.defers, fun t V' hV => ?_, fun t t' V1 V2 h1 h2 e => ?_, ⟨hide_size hsz, fun b o hb hh => ?_⟩, h.base, h.grow.trans (hide_grow hsz), ?_⟩
 ·by_cases e : r = d
  ·subst e
   simp only [St.own, upd_same] at hx
   injection hx with hx
   subst hx
   rw [Act.put_get_same _ _ (by rw [h.regs.size]; exact hd)]
   simp [SV.conc, setB]
  ·simp only [St.own, upd_ne _ _ e] at hx
   obtain ⟨k1, k2⟩ := unpub_spec_reg hx
   rw [Act.put_get_ne _ _ (fun k => e (by injection k with k; exact k.symm)), conc_setB (hat r x k1 k2)]
   exact h.regs.reg r x k1
 ·show ∃ V', upd (S.unpub pubs).var d (some V) t = some V'
  by_cases e : t = d
  ·subst e; exact ⟨V, upd_same _ _ _⟩
  ·rw [upd_ne _ _ e]
   by_cases e2 : r = d
   ·subst e2
    simp only [St.own, upd_same] at hx
    injection hx with hx
    subst hx
    injection ht with ht; exact absurd ht.symm e
   ·simp only [St.own, upd_ne _ _ e2] at hx
    obtain ⟨k1, k2⟩ := unpub_spec_reg hx
    obtain ⟨V', hV'⟩ := h.wf.reg r x t k1 ht
    have hnt : t ∉ pubs := fun hm => k2 (hno r x t k1 ht hm)
    exact ⟨V', by rw [unpub_var hnt]; exact hV'⟩
 ·by_cases e : t = d
  ·subst e
   simp only [St.own, upd_same] at hV
   injection hV with hV
   subst hV
   rw [show setB B t g t = g by simp [setB]]
   refine ⟨hgv, ?_, ?_⟩
   ·rcases hgo with hgo | hgo
    ·obtain ⟨k1, _, k3⟩ := hrowu g hgo
     rw [hide_old (by omega)]; exact k1
    ·exact hide_new (by omega) (lt_of_get hgv)
   ·refine .mk0 hd ?_
    rcases hgo with hgo | hgo
    ·exact (hrowu g hgo).2.1
    ·have := h.grow.size; omega
  ·simp only [St.own, upd_ne _ _ e] at hV
   obtain ⟨k1, k2⟩ := unpub_spec_var hV
   obtain ⟨g1, g2, g3⟩ := h.var t V' k1
   rw [show setB B d g t = B t by simp [setB, e]]
   refine ⟨?_, by rw [hide_old (lt_of_get g2)]; exact g2, g3⟩
   rw [hg.block _ (h.lt k1) ?_]
   ·exact g1
   ·intro hb
    obtain ⟨s, hs, _, Vs, hVs, he⟩ := hrow _ hb.symm
    exact k2 (h.inj s t Vs V' hVs k1 he ▸ hs)
 ·have key : ∀ t V1, (((S.unpub pubs).own d V n c)).var t = some V1 → t ≠ d → S.var t = some V1 ∧ t ∉ pubs := fun t V1 hV e => by
   simp only [St.own, upd_ne _ _ e] at hV; exact unpub_spec_var hV
  have hgt : ∀ t V1, S.var t = some V1 → t ∉ pubs → B t ≠ g := fun t V1 hV hn e => by
   rcases hgo with hgo | hgo
   ·obtain ⟨s, hs, _, Vs, hVs, he⟩ := hrow g hgo
    exact hn (h.inj s t Vs V1 hVs hV (he.trans e.symm) ▸ hs)
   ·have := h.lt hV; omega
  by_cases e1 : t = d
  ·by_cases e2 : t' = d
   ·rw [e1, e2]
   ·obtain ⟨k1, k2⟩ := key t' V2 h2 e2
    simp [setB, e1, e2] at e
    exact absurd e.symm (hgt t' V2 k1 k2)
  ·obtain ⟨k1, k2⟩ := key t V1 h1 e1
   by_cases e2 : t' = d
   ·simp [setB, e1, e2] at e
    exact absurd e (hgt t V1 k1 k2)
   ·obtain ⟨k3, k4⟩ := key t' V2 h2 e2
    simp [setB, e1, e2] at e
    exact h.inj t t' V1 V2 k1 k3 e
 ·rcases Nat.lt_or_ge b u.heap.size with hlt | hge
  ·rw [hide_old hlt] at hb
   rw [hg.block b (by omega) (fun hc => ?_)]
   ·exact h.dat.vis b o hb hh
   ·obtain ⟨k1, _⟩ := hrowu b hc.symm
    rw [k1] at hb; injection hb with hb; exact hh hb.symm
  ·have hlt := lt_of_get hb
   rw [hide_size hsz] at hlt
   rw [hide_new hge hlt] at hb; injection hb with hb; exact absurd hb.symm hh
 ·refine h.bel.trans ⟨hg.os, hg.tape, hg.output, hg.size, fun k hk => hg.block k ?_ (fun hc => ?_)⟩
  ·have h1 := h.bel.size; omega
  ·obtain ⟨_, k2, _⟩ := hrowu k hc.symm
   have := h.base; omega
structure ExtB (b : Nat) (u u' : World) : Prop where
 size : u.heap.size ≤ u'.heap.size
 vis : ∀ (k : Nat) (o : Obj), k ≠ b → u.heap[k]? = some o → o ≠ hidO → u'.heap[k]? = some o
theorem ExtB.ext {b : Nat} {u2 : World} (h : ExtB b u u') (e : Ext u' u2) : ExtB b u u2 := ⟨Nat.le_trans h.size e.size, fun k o hk ho hh => e.vis k o (h.vis k o hk ho hh) hh⟩
theorem ExtB.old {b : Nat} {v : World} (h : ExtB b u u') (e : Ext v u) (hb : v.heap.size ≤ b) : Ext v u' :=
 ⟨Nat.le_trans e.size h.size, fun k o hk hh => h.vis k o (fun e => by have := lt_of_get hk; omega) (e.vis k o hk hh) hh⟩
end
def rl0 : RL := ⟨false, ⟨none, 0, 0⟩, ⟨none, 0, 0⟩⟩
def rcs (L : List RL) : List Value := L.flatMap RL.cs
section
variable {u u' w w' : World} {L M : List RL} {r : RL} {l m : List Rat} {q : Rat} {K K' n i c b off : Nat} {x y : Sl}
theorem rcs_cons : rcs (r :: L) = r.cs ++ rcs L := rfl
theorem zyp : (rcs L).length = L.length * 3 := by
 induction L with
 | nil => rfl
 | cons r L ih => rw [rcs_cons, List.length_append, ih, List.length_cons]; simp [RL.cs]; omega
theorem rcs_drop (n : Nat) : (rcs L).drop (n * 3) = rcs (L.drop n) := by
 induction n generalizing L with
 | zero => simp
 | succ n ih =>
  cases L with
  | nil => simp [rcs]
  | cons r L => rw [rcs_cons, show (n + 1) * 3 = r.cs.length + n * 3 by simp [RL.cs]; omega, List.drop_append, Nat.add_sub_cancel_left, ih, List.drop_of_length_le (by omega)]; simp
theorem rcs_get (h : i < L.length) : ((rcs L).drop (i * 3)).take 3 = (L.getD i rl0).cs := by
 rw [rcs_drop, List.drop_eq_getElem_cons h, rcs_cons]
 have : (L[i].cs).length = 3 := rfl
 rw [List.take_append_of_le_length (by omega), List.take_of_length_le (by omega)]
 simp [h]
def RatsV (u : World) (L : List RL) (l : List Rat) (K : Nat) : Prop := L.length = l.length ∧ ∀ i, i < l.length → RatV u (L.getD i rl0) (l.getD i 0) K
def RatsN (u : World) (L : List RL) (l : List Rat) (K : Nat) : Prop := L.length = l.length ∧ ∀ i, i < l.length → RatN u (L.getD i rl0) (l.getD i 0) K
theorem RatsV.ext (h : RatsV u L l K) (e : Ext u u') : RatsV u' L l K := ⟨h.1, fun i hi => (h.2 i hi).ext e⟩
theorem RatsN.ext (h : RatsN u L l K) (e : Ext u u') : RatsN u' L l K := ⟨h.1, fun i hi => (h.2 i hi).ext e⟩
theorem RatsN.raw (h : RatsN u L l K) : RatsV u L l K := ⟨h.1, fun i hi => (h.2 i hi).raw⟩
theorem RatsV.more (h : RatsV u L l K) (k : K ≤ K') : RatsV u L l K' := ⟨h.1, fun i hi => (h.2 i hi).more k⟩
theorem RatsN.more (h : RatsN u L l K) (k : K ≤ K') : RatsN u L l K' := ⟨h.1, fun i hi => (h.2 i hi).more k⟩
theorem RatsN.nil (u : World) (K : Nat) : RatsN u [] [] K := ⟨rfl, fun i hi => by cases hi⟩
theorem RatsN.snoc (h : RatsN u L l K) (hr : RatN u r q K) : RatsN u (L ++ [r]) (l ++ [q]) K := by
 refine ⟨by simp [h.1], fun i hi => ?_⟩
 simp at hi
 by_cases e : i < l.length
 ·have := h.2 i e
  rw [List.getD_eq_getElem?_getD, List.getElem?_append_left (by rw [h.1]; exact e), List.getD_eq_getElem?_getD (l := l ++ [q]), List.getElem?_append_left e]
  rw [List.getD_eq_getElem?_getD, List.getD_eq_getElem?_getD] at this
  exact this
 ·have : i = l.length := by omega
  subst this
  rw [List.getD_eq_getElem?_getD, List.getElem?_append_right (by rw [h.1]; exact Nat.le_refl _), List.getD_eq_getElem?_getD, List.getElem?_append_right (Nat.le_refl _)]
  simp [h.1]; exact hr
theorem RatsV.take (h : RatsV u L l K) (n : Nat) : RatsV u (L.take n) (l.take n) K := by
 refine ⟨by simp [h.1], fun i hi => ?_⟩
 rw [List.length_take] at hi
 have hi : i < n ∧ i < l.length := by omega
 have := h.2 i hi.2
 rw [List.getD_eq_getElem?_getD, List.getElem?_take_of_lt hi.1, List.getD_eq_getElem?_getD, List.getElem?_take_of_lt hi.1]
 rw [List.getD_eq_getElem?_getD, List.getD_eq_getElem?_getD] at this
 exact this
theorem RatsN.take (h : RatsN u L l K) (n : Nat) : RatsN u (L.take n) (l.take n) K := by
 refine ⟨by simp [h.1], fun i hi => ?_⟩
 rw [List.length_take] at hi
 have hi : i < n ∧ i < l.length := by omega
 have := h.2 i hi.2
 rw [List.getD_eq_getElem?_getD, List.getElem?_take_of_lt hi.1, List.getD_eq_getElem?_getD, List.getElem?_take_of_lt hi.1]
 rw [List.getD_eq_getElem?_getD, List.getD_eq_getElem?_getD] at this
 exact this
theorem RatsN.set (h : RatsN u L l K) (hi : i < l.length) (hr : RatN u r q K) : RatsN u (L.set i r) (l.set i q) K := by
 refine ⟨by simp [h.1], fun j hj => ?_⟩
 simp at hj
 have hL := h.1
 by_cases e : j = i
 ·subst e; simp [hL, hj]; exact hr
 ·have := h.2 j hj
  rw [List.getD_eq_getElem?_getD, List.getElem?_set_ne (Ne.symm e), List.getD_eq_getElem?_getD, List.getElem?_set_ne (Ne.symm e)]
  rw [List.getD_eq_getElem?_getD, List.getD_eq_getElem?_getD] at this
  exact this
theorem RatsN.step (h : RatsN u (L.take i) l K) (hi : i < L.length) (hr : RatN u r q K) : RatsN u ((L.set i r).take (i + 1)) (l ++ [q]) K := by
 have e : (L.set i r).take (i + 1) = L.take i ++ [r] := by
  rw [List.take_set, List.take_succ_eq_append_getElem hi, List.set_append_right _ _ (by simp; omega)]
  simp [Nat.min_eq_left (Nat.le_of_lt hi)]
 rw [e]; exact h.snoc hr
theorem take_snoc {t : List Rat} (h : i < t.length) : t.take i ++ [t.getD i 0] = t.take (i + 1) := by
 rw [List.take_succ_eq_append_getElem h]; simp [h]
theorem rcs_noint {j : Nat} {k : IntKind} {z : Int} : (rcs L)[j]? ≠ some (.int k z) := by
 intro h
 have hj : j < (rcs L).length := (List.getElem?_eq_some_iff.1 h).1
 rw [zyp] at hj
 have h3 : j / 3 < L.length := by omega
 have e3 : (rcs L)[j]? = (((rcs L).drop (j / 3 * 3)).take 3)[j % 3]? := by
  rw [List.getElem?_take_of_lt (by omega), List.getElem?_drop]; congr 1; omega
 rw [e3, rcs_get h3] at h
 have : j % 3 = 0 ∨ j % 3 = 1 ∨ j % 3 = 2 := by omega
 rcases this with e | e | e <;> rw [e] at h <;> simp [RL.cs] at h
theorem SlR.extB {A : Option Addr} {n c : Nat} {z : List Int} {k : IntKind} {t : TypeId} {M : List RL} (h : SlR k u A n c z) (hb : u.heap[b]? = some (.cells (rcs M).toArray t (0, 0))) (e : ExtB b u u') : SlR k u' A n c z := by
 obtain ⟨h1, h2, h3, h4⟩ := h
 refine ⟨h1, h2, h3, fun hp => ?_⟩
 obtain ⟨b', o, rfl, hlt, hc⟩ := h4 hp
 have hne : b' ≠ b := by
  rintro rfl
  have := hc 0 hp
  rw [cells_at' hb] at this
  have h9 : (rcs M)[o + 0]? = some (.int k (z[0]?.getD 0)) := by simpa using this
  exact rcs_noint h9
 refine ⟨b', o, rfl, Nat.lt_of_lt_of_le hlt e.size, fun i hi => ?_⟩
 have := hc i hi
 unfold World.cell? at this ⊢
 cases hb' : u.heap[b']? with
 | none => simp only [hb'] at this; cases this
 | some ob =>
  simp only [hb'] at this
  cases ob with
  | cells cs t' fr => rw [e.vis b' _ hne hb' (by unfold hidO; exact fun e => by cases e)]; exact this
  | _ => cases this
where
 cells_at' {u : World} {b : Nat} {cs : Array Value} {t : TypeId} (h : u.heap[b]? = some (.cells cs t (0, 0))) {j : Nat} : u.cell? ⟨b, j, none⟩ = cs[j]? := by simp [World.cell?, h]
theorem RatN.extB {t : TypeId} {M : List RL} (h : RatN u r q K) (hb : u.heap[b]? = some (.cells (rcs M).toArray t (0, 0))) (e : ExtB b u u') : RatN u' r q K :=
 ⟨⟨h.1.1, h.1.2.1, h.1.2.2.1.extB hb e, h.1.2.2.2⟩, h.2.1, h.2.2.1.extB hb e, h.2.2.2⟩
theorem RatsN.extB {t : TypeId} {M : List RL} (h : RatsN u L l K) (hb : u.heap[b]? = some (.cells (rcs M).toArray t (0, 0))) (e : ExtB b u u') : RatsN u' L l K := ⟨h.1, fun i hi => (h.2 i hi).extB hb e⟩
def SlC (u : World) (x : Sl) (cs : List Value) : Prop := cs.length = x.n * 3 ∧ x.n ≤ x.c ∧ x.c ≤ maxLen ∧ (0 < x.n → ∃ b o, x.a = some ⟨b, o, none⟩ ∧ ∀ j, j < cs.length → u.cell? ⟨b, o + j, none⟩ = cs[j]?)
theorem SlC.ext {cs : List Value} (h : SlC u x cs) (e : Ext u u') : SlC u' x cs := by
 obtain ⟨h1, h2, h3, h4⟩ := h
 refine ⟨h1, h2, h3, fun hp => ?_⟩
 obtain ⟨b, o, e1, hc⟩ := h4 hp
 refine ⟨b, o, e1, fun j hj => ?_⟩
 have := hc j hj
 rw [List.getElem?_eq_getElem hj] at this ⊢
 exact e.cell this
def PolV (u : World) (x : Sl) (l : List Rat) (K : Nat) : Prop := ∃ L, SlC u x (rcs L) ∧ RatsV u L l K
def PolN (u : World) (x : Sl) (l : List Rat) (K : Nat) : Prop := ∃ L, SlC u x (rcs L) ∧ RatsN u L l K
theorem PolV.ext (h : PolV u x l K) (e : Ext u u') : PolV u' x l K := by obtain ⟨L, h1, h2⟩ := h; exact ⟨L, h1.ext e, h2.ext e⟩
theorem PolN.ext (h : PolN u x l K) (e : Ext u u') : PolN u' x l K := by obtain ⟨L, h1, h2⟩ := h; exact ⟨L, h1.ext e, h2.ext e⟩
theorem PolN.raw (h : PolN u x l K) : PolV u x l K := by obtain ⟨L, h1, h2⟩ := h; exact ⟨L, h1, h2.raw⟩
theorem PolV.more (h : PolV u x l K) (k : K ≤ K') : PolV u x l K' := by obtain ⟨L, h1, h2⟩ := h; exact ⟨L, h1, h2.more k⟩
theorem PolN.more (h : PolN u x l K) (k : K ≤ K') : PolN u x l K' := by obtain ⟨L, h1, h2⟩ := h; exact ⟨L, h1, h2.more k⟩
theorem PolV.len (h : PolV u x l K) : x.n = l.length := by
 obtain ⟨L, h1, h2⟩ := h
 have := h1.1; rw [zyp, h2.1] at this; omega
theorem PolN.len (h : PolN u x l K) : x.n = l.length := h.raw.len
theorem PolV.max (h : PolV u x l K) : l.length ≤ maxLen := by
 have := h.len
 obtain ⟨L, h1, h2⟩ := h
 have := h1.2.1; have := h1.2.2.1; omega
theorem PolV.cap (h : PolV u x l K) : x.n ≤ x.c := by obtain ⟨L, h1, h2⟩ := h; exact h1.2.1
theorem PolN.cap (h : PolN u x l K) : x.n ≤ x.c := h.raw.cap
theorem pol_at (h : PolV u x l K) (hi : i < l.length) : ∃ (r : RL) (b o : Nat), x.a = some ⟨b, o, none⟩ ∧ (∀ j, j < r.cs.length → u.cell? ⟨b, o + i * 3 + j, none⟩ = r.cs[j]?) ∧ RatV u r (l.getD i 0) K := by
 have hn := h.len
 obtain ⟨L, ⟨h1, h2, h3, h4⟩, h5⟩ := h
 obtain ⟨b, o, e, hc⟩ := h4 (by omega)
 have hL : i < L.length := by rw [h5.1]; exact hi
 refine ⟨L.getD i rl0, b, o, e, fun j hj => ?_, h5.2 i hi⟩
 have hj : j < 3 := hj
 have := hc (i * 3 + j) (by rw [zyp]; omega)
 rw [← Nat.add_assoc] at this
 rw [this, ← rcs_get hL, List.getElem?_take_of_lt hj, List.getElem?_drop]
theorem pol_atN (h : PolN u x l K) (hi : i < l.length) : ∃ (r : RL) (b o : Nat), x.a = some ⟨b, o, none⟩ ∧ (∀ j, j < r.cs.length → u.cell? ⟨b, o + i * 3 + j, none⟩ = r.cs[j]?) ∧ RatN u r (l.getD i 0) K := by
 have hn := h.len
 obtain ⟨L, ⟨h1, h2, h3, h4⟩, h5⟩ := h
 obtain ⟨b, o, e, hc⟩ := h4 (by omega)
 have hL : i < L.length := by rw [h5.1]; exact hi
 refine ⟨L.getD i rl0, b, o, e, fun j hj => ?_, h5.2 i hi⟩
 have hj : j < 3 := hj
 have := hc (i * 3 + j) (by rw [zyp]; omega)
 rw [← Nat.add_assoc] at this
 rw [this, ← rcs_get hL, List.getElem?_take_of_lt hj, List.getElem?_drop]
end
section
variable {P : Program} (w : World)
theorem wpList_makeKC {ops : Array Oper} {rest : List Oper} {o : Oper} {a : Act} {Q : Exit → Act → World → Prop}
  (hg : o.guard = none) (l c : Operand) (t : TypeId) (hop : o.op = Op.makeSlice t l c) (e : TypeId) (k : IntKind) (bytes : Nat) (h1 : P.underlying t = some (.slice e))
  (h2 : (P.info? e).map (fun i => (i.zero, i.size, i.bytes)) = some (some (.int k 0), 1, bytes))
  (kl kc : IntKind) (L C : Int) (n m : Nat) (hl : a.eval l = .int kl L) (hc : a.eval c = .int kc C) (hL : L = (n : Int)) (hC : C = (m : Int)) (hnm : n ≤ m) (b2 : bytes * m ≤ 281474976710656) (b3 : m ≤ maxLen)
  (hK : ∀ w', OwnK k w' w.heap.size e (some ⟨w.heap.size, 0, none⟩) n m (List.replicate n 0) → Below w.heap.size w w' → w'.heap.size = w.heap.size + 1 → wpList P ops Q rest (a.put o.dst (.slice (some ⟨w.heap.size, 0, none⟩) n m)) w') :
  wpList P ops Q (o :: rest) a w := by
 obtain ⟨i, hi, hz, hs, hb⟩ := info_parts h2
 refine wpList_plain hg fun K hK' => ?_
 subst hL hC hb
 have h63 : (m : Int) ≤ 9223372036854775807 := by have := b3; unfold maxLen at this; omega
 have hb' : (i.bytes : Int) * (m : Int) ≤ 281474976710656 := by
  have h : ((i.bytes * m : Nat) : Int) ≤ 281474976710656 := by omega
  rwa [Int.natCast_mul] at h
 have hrun := run_make (P := P) w t e i _ h1 hi hz kl kc n m (by omega) (by omega) hb' h63
 unfold Oper.wp
 simp [execOp, hop, hl, hc, hrun, Result.andThen]
 have hblk : KBlk k (w.alloc (.cells (madeCells (Value.int k 0).cells (m * i.size)) e)) w.heap.size e (List.replicate m 0) := by
  unfold KBlk
  rw [heap_alloc_new, hs, Nat.mul_one]
  congr 2
  apply Array.ext'
  have h3 := toList_madeCells_one (.int k 0) m
  have h4 : (Value.int k 0).cells = #[Value.int k 0] := rfl
  rw [h4, h3]
  simp
 refine hK' _ _ (hK _ ⟨by simp, by simp, .inr ⟨w.heap.size, m, _, rfl, Nat.le_refl _, hblk, hnm, b3, by simp, by simp [List.take_replicate, Nat.min_eq_left hnm]⟩⟩ ((Below.refl _ _).alloc (Nat.le_refl _) _) (by simp))
end
namespace Nt
theorem bitLen_bitl {t : Nat} (h : t < 4294967296) : Lib.bitLen t = bitl t := by
 rcases Nat.eq_zero_or_pos t with h0 | h0
 ·subst h0; rfl
 ·have hb : 1 ≤ Lib.bitLen t ∧ 2 ^ (Lib.bitLen t - 1) ≤ t ∧ t < 2 ^ Lib.bitLen t := Lib.bitLenAux_bounds 64 t (by omega) (by omega)
  exact (bitl_unique (by omega) hb.2.1 hb.2.2).symm
theorem bitl_le32 {t : Nat} (h : t < 4294967296) : bitl t ≤ 32 := by
 rcases Nat.eq_zero_or_pos t with h0 | h0
 ·subst h0; decide
 ·have h1 := bitl_le h0
  have h3 : 2 ^ (bitl t - 1) < 2 ^ 32 := by omega
  have := (Nat.pow_lt_pow_iff_right (show 1 < 2 by omega)).1 h3
  omega
theorem last_norm {l : List Int} (h : 0 < l.length) (k : l[l.length - 1]?.getD 0 ≠ 0) : strip l = l := by
 induction l with
 | nil => cases h
 | cons x l ih =>
  rw [strip]
  rcases Nat.eq_zero_or_pos l.length with h0 | h0
  ·have e := List.eq_nil_of_length_eq_zero h0
   subst e
   have : x ≠ 0 := by simpa using k
   simp [strip, this]
  ·have e : strip l = l := ih h0 (by
    have e9 : (x :: l).length - 1 = (l.length - 1) + 1 := by simp; omega
    rw [e9] at k; simpa using k)
   rw [e, if_neg]
   rintro ⟨h1, _⟩
   rw [h1] at h0; simp at h0
end Nt
set_option maxHeartbeats 1000000 in
theorem Normal_any (A : Option Addr) (n c : Nat) (a : List Int) (w : World) (ha : SlR .u32 w A n c a) :
  Calls Tryz.prog 173 #[.slice A n c] w fun e w' => (∃ b : Bool, e = .returned (.bool b) ∧ (b = true ↔ (n = 0 ∨ a[n - 1]?.getD 0 ≠ 0))) ∧ w' = w := by
 rcases n with _ | k
 ·go_enter Tryz.func173, Tryz.ntmps173
  go_wp2
  go_ret
  exact ⟨⟨_, rfl, by simp⟩, rfl⟩
 ·obtain ⟨b, o, rfl, _, hc⟩ := ha.pos (i := k) (by omega)
  have hcm := ha.2.1
  have hmx : c ≤ maxLen := ha.2.2.1
  unfold maxLen at hmx
  have hkb : ((k : Int) + 1 == 0) = false := by rw [beq_eq_false_iff_ne]; omega
  obtain ⟨t, ht⟩ : ∃ t, t = a[k]?.getD 0 := ⟨_, rfl⟩
  rw [← ht] at hc
  have HT : Hid ((t != 0) = true ↔ (k + 1 = 0 ∨ a[k + 1 - 1]?.getD 0 ≠ 0)) := by show _ ↔ _; rw [Nat.add_sub_cancel, ← ht]; simp
  clear ht
  go_enter Tryz.func173, Tryz.ntmps173
  go_wp2
  go_ret
  exact ⟨⟨_, rfl, HT.out⟩, rfl⟩
set_option maxHeartbeats 1000000 in
theorem BitLen_any (A : Option Addr) (n c : Nat) (a : List Int) (w : World) (ha : SlR .u32 w A n c a) (da : Nt.Dig a) (hn : n ≤ 1000000000) :
  Calls Tryz.prog 211 #[.slice A n c] w fun e w' => e = .returned (.int .i64 (Nt.bitl (Nt.val a).toNat)) ∧ w' = w := by
 have lx : (Nt.strip a).length ≤ n := by rw [← ha.1]; exact Nt.zyg a
 have hx := ha.upto (m := (Nt.strip a).length) lx
 rw [← Nt.strip_take] at hx
 have hcut := cut_any A n c a w ha
 have eN := Nt.strip_eq da
 rw [eN] at hx lx hcut
 generalize hX : (Nt.val a).toNat = X at *
 obtain ⟨N, hN⟩ : ∃ N, N = (Nt.digits X).length := ⟨_, rfl⟩
 rw [← hN] at hx lx hcut
 clear eN hX
 rcases N with _ | k
 ·have h0 : Hid (Nt.bitl X = 0) := by
   have : X = 0 := by
    rcases Nat.eq_zero_or_pos X with h | h
    ·exact h
    ·have := Nt.digits_length_pos h; omega
   show _ = _
   rw [this]; rfl
  clear ha da
  go_enter Tryz.func211, Tryz.ntmps211
  go_wp2_with fail
  refine hcut.mono ?_
  rintro e w1 ⟨rfl, rfl⟩
  go_wp2
  go_ret
  exact ⟨by rw [h0.out]; rfl, rfl⟩
 ·obtain ⟨b, o, rfl, _, hc⟩ := hx.pos (i := k) (by omega)
  have hcm := hx.2.1
  have ht := (Nt.zyi X).at k
  have hne := Nt.norm_last (k := k) (Nt.digits_norm X) hN.symm
  obtain ⟨t, ht2⟩ : ∃ t : Nat, (Nt.digits X)[k]?.getD 0 = (t : Int) := ⟨((Nt.digits X)[k]?.getD 0).toNat, by omega⟩
  have hfin := Nt.bitl_digits hN.symm ht2 (by omega)
  rw [ht2] at hc hne ht
  have Hfin := Lib.hid hfin
  have HN := Lib.hid hN
  have hkb : ((k : Int) + 1 == 0) = false := by rw [beq_eq_false_iff_ne]; omega
  have hb32 := Nt.bitl_le32 (t := t) (by omega)
  have hbe := Nt.bitLen_bitl (t := t) (by omega)
  clear hfin ht2 hx ha da hN
  go_enter Tryz.func211, Tryz.ntmps211
  go_wp2_with fail
  refine hcut.mono ?_
  rintro e w1 ⟨rfl, rfl⟩
  go_wp2_with fail
  refine (Len32_any (t : Int) _ (by omega) (by omega)).mono ?_
  rintro e w1 ⟨rfl, rfl⟩
  rw [Int.toNat_natCast, hbe]
  generalize Nt.bitl t = bt at *
  go_wp2
  go_ret
  exact ⟨by rw [Hfin.out]; refine congrArg (fun z : Int => Ending.returned (.int .i64 z)) ?_; omega, rfl⟩
end Go.Proofs.YtnedhbidmfoegaaGreat
namespace Go.Proofs.YtnedhbidmfoegaaGreat
set_option linter.unusedVariables false
namespace Nt
def co (l : List Rat) (i : Nat) : Rat := l.getD i 0
def addQ (l m : List Rat) : List Rat := (List.range (max l.length m.length)).map fun i => co l i + co m i
@[simp] theorem addQ_len (l m : List Rat) : (addQ l m).length = max l.length m.length := by simp [addQ]
def negQ (l : List Rat) : List Rat := l.map fun x => -x
@[simp] theorem negQ_len (l : List Rat) : (negQ l).length = l.length := by simp [negQ]
def derQ (l : List Rat) : List Rat := (List.range (l.length - 1)).map fun i => co l (i + 1) * (((i + 1 : Nat) : Int) : Rat)
@[simp] theorem derQ_len (l : List Rat) : (derQ l).length = l.length - 1 := by simp [derQ]
end Nt
section
open Go.RowKit
variable {u : World} {x : Sl} {l : List Rat} {K : Nat}
end
end Go.Proofs.YtnedhbidmfoegaaGreat
namespace Go.Proofs.YtnedhbidmfoegaaGreat
open Go.RowKit
set_option linter.unusedVariables false
section
variable {u u' w w' : World} {x y : Sl} {i j : IL} {r r' : RL} {N M K L S b o n : Nat} {z z' : Int} {q q' : Rat} {l m : List Rat} {cs cs' : List Value}
theorem SlR.same {k : IntKind} {A : Option Addr} {n c : Nat} {l l' : List Int} (h : SlR k u A n c l) (h' : SlR k u A n c l') : l = l' := by
 apply List.ext_getElem?
 intro i
 have h1 := h.1
 have h2 := h'.1
 by_cases hi : i < n
 ·obtain ⟨b, o, e0, _, hc⟩ := h.pos hi
  obtain ⟨b', o', e, _, hc'⟩ := h'.pos hi
  rw [e0] at e
  cases e
  rw [hc] at hc'
  have e3 : l[i]?.getD 0 = l'[i]?.getD 0 := by simpa using hc'
  rw [List.getElem?_eq_getElem (by omega), List.getElem?_eq_getElem (by omega)] at e3 ⊢
  simpa using e3
 ·rw [List.getElem?_eq_none (by omega), List.getElem?_eq_none (by omega)]
theorem NatN.val (h : NatV u x N K) (k : NatN u x M L) : M = N := by
 obtain ⟨l, h1, h2, h3, h4⟩ := h
 have e := h1.same k.2.1
 have e2 := Nt.zyh M
 rw [← e, h4] at e2
 omega
theorem NatN.back (h : NatV u x N K) (e : Ext u u') (k : NatN u' x M L) : NatN u x N K := by
 have e1 := NatN.val (h.ext e) k
 subst e1
 obtain ⟨l, h1, h2, h3, h4⟩ := h
 have e2 := (h1.ext e).same k.2.1
 exact ⟨k.1, e2 ▸ h1, by rw [← k.1]; exact h3⟩
theorem IntN.val (h : IntV u i z K) (k : IntN u i z' L) : z' = z := by
 obtain ⟨N, h1, h2⟩ := h
 have e := NatN.val h1 k.2
 rw [h2, k.1]
 unfold Nt.sg
 by_cases hz : z' < 0
 ·simp [hz]; omega
 ·simp [hz]; omega
theorem IntN.back (h : IntV u i z K) (e : Ext u u') (k : IntN u' i z' L) : IntN u i z K := by
 have e1 := IntN.val (h.ext e) k
 subst e1
 exact ⟨k.1, NatN.back h.abs e k.2⟩
theorem RatN.val (h : RatV u r q K) (k : RatN u r q' L) : q' = q := by
 obtain ⟨⟨z, D, h1, h2, h3⟩, h4⟩ := h
 rw [h3, ← IntN.val h1 k.1, ← NatN.val h2 k.2, Rat.mkRat_self]
theorem RatN.back (h : RatV u r q K) (e : Ext u u') (k : RatN u' r q' L) : RatN u r q K := by
 have e1 := RatN.val (h.ext e) k
 subst e1
 obtain ⟨⟨z, D, h1, h2, h3⟩, h4⟩ := h
 have a1 := IntN.val (h1.ext e) k.1
 have a2 := NatN.val (h2.ext e) k.2
 exact ⟨by rw [a1]; exact IntN.back h1 e k.1, by rw [a2]; exact NatN.back h2 e k.2⟩
theorem nat_norm {l : List Int} (h : SlR .u32 u x.a x.n x.c l) (hd : Nt.Dig l) (hK : x.n ≤ K) : NatN u x (Nt.val l).toNat K ↔ (x.n = 0 ∨ l[x.n - 1]?.getD 0 ≠ 0) := by
 have hl := h.1
 have e := Nt.strip_eq hd
 constructor
 ·intro k
  rcases Nat.eq_zero_or_pos x.n with h0 | h0
  ·exact .inl h0
  ·right
   have e2 := h.same k.2.1
   rw [← e] at e2
   exact Nt.norm_last (k := x.n - 1) (l := l) e2.symm (by omega)
 ·intro k
  have e3 : Nt.strip l = l := by
   rcases k with k | k
   ·rw [List.eq_nil_of_length_eq_zero (by omega : l.length = 0)]; rfl
   ·rcases Nat.eq_zero_or_pos x.n with h0 | h0
    ·rw [List.eq_nil_of_length_eq_zero (by omega : l.length = 0)]; rfl
    ·exact Nt.last_norm (by omega) (by rw [hl]; exact k)
  rw [e3] at e
  exact ⟨by unfold dl; rw [← e]; omega, by rw [← e]; exact h, by unfold dl; rw [← e]; omega⟩
theorem int_norm (h : IntV u i z K) : IntN u i z K ↔ (NatN u i.m z.natAbs K ∧ ¬ (i.s = true ∧ i.m.n = 0)) := by
 obtain ⟨N, h1, h2⟩ := h
 constructor
 ·intro k
  refine ⟨k.2, fun hc => ?_⟩
  have a := k.2.pos
  have b := k.1
  rw [hc.1] at b
  have b' : z < 0 := of_decide_eq_true b.symm
  omega
 ·rintro ⟨k1, k2⟩
  refine ⟨?_, k1⟩
  have a := k1.pos
  rw [h2] at a ⊢
  rw [Nt.sg_abs] at a
  unfold Nt.sg
  cases hs : i.s
  ·simp
  ·have : i.m.n ≠ 0 := fun e => k2 ⟨hs, e⟩
   simp; omega
theorem rat_norm {D : Nat} (hi : IntV u ⟨r.s, r.m⟩ z K) (hd : NatV u r.d D K) (hK : 1 ≤ K) : RatN u r (mkRat z D) K ↔ (IntN u ⟨r.s, r.m⟩ z K ∧ NatN u r.d D K ∧ r.d.n ≠ 0 ∧ Nat.gcd z.natAbs D = 1) := by
 constructor
 ·intro k
  have a1 := IntN.val hi k.1
  have a2 := NatN.val hd k.2
  have k1 := k.1
  have k2 := k.2
  have cop := (mkRat z D).reduced
  have pos := (mkRat z D).den_pos
  rw [a1] at k1 cop
  rw [a2] at k2 cop pos
  have k3 := k2.pos
  exact ⟨k1, k2, by omega, cop⟩
 ·rintro ⟨k1, k2, k3, k4⟩
  have k5 := k2.pos
  have hD : 0 < D := by omega
  have e1 := (Nt.mk_den (z := z) hD).1
  have e2 := (Nt.mk_den (z := z) hD).2
  rw [k4, Nat.div_one] at e1
  rw [k4] at e2
  simp at e2
  exact ⟨by rw [e2]; exact k1, by rw [e1]; exact k2⟩
theorem rl_inj (h : r.cs = r'.cs) : r = r' := by
 obtain ⟨s, ⟨a, n, c⟩, ⟨a2, n2, c2⟩⟩ := r
 obtain ⟨s', ⟨a', n', c'⟩, ⟨a2', n2', c2'⟩⟩ := r'
 simp [RL.cs] at h
 obtain ⟨rfl, ⟨rfl, rfl, rfl⟩, rfl, rfl, rfl⟩ := h
 rfl
def ElN (u : World) (x : Sl) (n : Nat) (q : Rat) (K : Nat) : Prop := ∃ (r : RL) (b o : Nat), x.a = some ⟨b, o, none⟩ ∧ (∀ j, j < r.cs.length → u.cell? ⟨b, o + n * 3 + j, none⟩ = r.cs[j]?) ∧ RatN u r q K
theorem pol_els (h : PolV u x l K) (k : ∀ n, n < l.length → ElN u x n (l.getD n 0) K) : PolN u x l K := by
 have hn := h.len
 obtain ⟨L, h1, h5⟩ := h
 refine ⟨L, h1, h5.1, fun i hi => ?_⟩
 obtain ⟨r, b, o, e, hc, hr⟩ := k i hi
 obtain ⟨_, _, _, h4⟩ := h1
 obtain ⟨b', o', e', hc'⟩ := h4 (by omega)
 rw [e] at e'
 cases e'
 have hL : i < L.length := by rw [h5.1]; exact hi
 have e9 : r = L.getD i rl0 := by
  apply rl_inj
  apply List.ext_getElem?
  intro j
  by_cases hj : j < 3
  ·have a := hc j hj
   have b' := hc' (i * 3 + j) (by rw [zyp]; omega)
   rw [← Nat.add_assoc, a] at b'
   rw [b', ← rcs_get hL, List.getElem?_take_of_lt hj, List.getElem?_drop]
  ·rw [List.getElem?_eq_none (show r.cs.length ≤ j by show 3 ≤ j; omega), List.getElem?_eq_none (show (L.getD i rl0).cs.length ≤ j by show 3 ≤ j; omega)]
 rw [← e9]; exact hr
theorem pol_el (h : PolN u x l K) (hi : n < l.length) (hA : x.a = some ⟨b, o, none⟩) (hc : ∀ j, j < r.cs.length → u.cell? ⟨b, o + n * 3 + j, none⟩ = r.cs[j]?) : RatN u r (l.getD n 0) K := by
 obtain ⟨r', b', o', e, hc', hr⟩ := pol_atN h hi
 rw [hA] at e
 cases e
 have e9 : r = r' := by
  apply rl_inj
  apply List.ext_getElem?
  intro j
  by_cases hj : j < 3
  ·rw [← hc j hj, ← hc' j hj]
  ·rw [List.getElem?_eq_none (show r.cs.length ≤ j by show 3 ≤ j; omega), List.getElem?_eq_none (show r'.cs.length ≤ j by show 3 ≤ j; omega)]
 rw [e9]; exact hr
theorem NatN.same (h : NatV u x N K) (e : Ext u u') : NatN u' x N K ↔ NatN u x N K := ⟨fun k => NatN.back h e k, fun k => k.ext e⟩
theorem IntN.same (h : IntV u i z K) (e : Ext u u') : IntN u' i z K ↔ IntN u i z K := ⟨fun k => IntN.back h e k, fun k => k.ext e⟩
theorem RatN.same (h : RatV u r q K) (e : Ext u u') : RatN u' r q K ↔ RatN u r q K := ⟨fun k => RatN.back h e k, fun k => k.ext e⟩
theorem int_eq (h : IntV u i z K) (k : IntN u' j z' L) : (IntN u i z K ∧ z = z') ↔ ((i.s == j.s) = true ∧ NatN u i.m z.natAbs K ∧ z.natAbs = z'.natAbs) := by
 constructor
 ·rintro ⟨h1, rfl⟩
  exact ⟨by rw [h1.1, k.1]; simp, h1.2, rfl⟩
 ·rintro ⟨h1, h2, h3⟩
  have h1 : i.s = j.s := by simpa using h1
  obtain ⟨N, h4, h5⟩ := h
  have h6 := k.sg
  have h7 : N = z.natAbs := by rw [h5, Nt.sg_abs]
  have h8 : z = z' := by rw [h5, h6, h1, h7, h3]
  subst h8
  exact ⟨⟨by rw [h1]; exact k.1, h2⟩, rfl⟩
theorem rat_eq {D : Nat} (hi : IntV u ⟨r.s, r.m⟩ z K) (hd : NatV u r.d D K) (h : q = mkRat z D) : (RatN u r q K ∧ q = q') ↔ ((IntN u ⟨r.s, r.m⟩ z K ∧ z = q'.num) ∧ (NatN u r.d D K ∧ D = q'.den)) := by
 subst h
 constructor
 ·rintro ⟨h1, rfl⟩
  have a1 := IntN.val hi h1.1
  have a2 := NatN.val hd h1.2
  have b1 := h1.1
  have b2 := h1.2
  rw [a1] at b1
  rw [a2] at b2
  exact ⟨⟨b1, a1.symm⟩, b2, a2.symm⟩
 ·rintro ⟨⟨h1, h2⟩, h3, h4⟩
  have e : mkRat z D = q' := by rw [h2, h4, Rat.mkRat_self]
  exact ⟨⟨by rw [e, ← h2]; exact h1, by rw [e, ← h4]; exact h3⟩, e⟩
def ElsN (u : World) (x : Sl) (l : List Rat) (n K : Nat) : Prop := ∀ i, i < n → ElN u x i (l.getD i 0) K
theorem ElN.ext (h : ElN u x n q K) (e : Ext u u') : ElN u' x n q K := by
 obtain ⟨r, b, o, hA, hc, hr⟩ := h
 refine ⟨r, b, o, hA, fun j hj => ?_, hr.ext e⟩
 have h9 := hc j hj
 rw [List.getElem?_eq_getElem hj] at h9 ⊢
 exact e.cell h9
theorem ElsN.ext (h : ElsN u x l n K) (e : Ext u u') : ElsN u' x l n K := fun i hi => (h i hi).ext e
theorem ElsN.nil (u : World) (x : Sl) (l : List Rat) (K : Nat) : ElsN u x l 0 K := fun i hi => absurd hi (Nat.not_lt_zero i)
theorem ElsN.step (h : ElsN u' x l n K) (hA : x.a = some ⟨b, o, none⟩) (hc : ∀ j, j < r.cs.length → u.cell? ⟨b, o + n * 3 + j, none⟩ = r.cs[j]?) (e : Ext u u') (hr : RatN u' r (l.getD n 0) K) : ElsN u' x l (n + 1) K := by
 intro i hi
 by_cases e1 : i = n
 ·subst e1
  refine ⟨r, b, o, hA, fun j hj => ?_, hr⟩
  have h9 := hc j hj
  rw [List.getElem?_eq_getElem hj] at h9 ⊢
  exact e.cell h9
 ·exact h i (by omega)
theorem ElsN.done (hx : PolV u x l K) (h : ElsN u x l n K) (hn : n = l.length) : PolN u x l K := pol_els hx fun i hi => h i (by omega)
theorem PolN.back (h : PolV u x l K) (e : Ext u u') (k : PolN u' x l L) : PolN u x l K := by
 refine pol_els h fun n hn => ?_
 obtain ⟨r, b, o, hA, hc, hr⟩ := pol_at h hn
 refine ⟨r, b, o, hA, hc, RatN.back hr e (pol_el k hn hA fun j hj => ?_)⟩
 have h9 := hc j hj
 rw [List.getElem?_eq_getElem hj] at h9 ⊢
 exact e.cell h9
theorem PolN.same (h : PolV u x l K) (e : Ext u u') : PolN u' x l K ↔ PolN u x l K := ⟨fun k => PolN.back h e k, fun k => k.ext e⟩
end
section
variable {u u' w w' : World} {x y : Sl} {i j : IL} {N M K L : Nat}
theorem k_natNormal (d : Dat u w) (h : NatV u x N K) : Calls Tryz.prog 173 #[x.v] w (Post u w fun v _ => ∃ b : Bool, v = .bool b ∧ (b = true ↔ NatN u x N K)) := by
 obtain ⟨l, a1, a2, a3, a4⟩ := h
 refine (Normal_any _ _ _ _ _ (a1.ext d.ext)).mono fun e w' ⟨⟨b, he, hb⟩, hw⟩ => ?_
 subst hw
 have key := nat_norm a1 a2 a3
 rw [a4, Int.toNat_natCast] at key
 obtain ⟨v, u', p1, p2, p3, p4, p5⟩ := post_below (v := .bool b) d he (Below.refl _ _)
 exact ⟨v, u', p1, p2, p3, p4, b, p5, hb.trans key.symm⟩
theorem k_rnSameV (d : Dat u w) (h1 : NatV u x N K) (h2 : NatN u y M L) : Calls Tryz.prog 138 #[x.v, y.v] w (Post u w fun v _ => ∃ b : Bool, v = .bool b ∧ (b = true ↔ (NatN u x N K ∧ N = M))) := by
 obtain ⟨l, a1, a2, a3, a4⟩ := h1
 refine (rSame_any _ _ _ _ _ _ _ _ _ (a1.ext d.ext) (h2.2.1.ext d.ext)).mono fun e w' ⟨he, k, hk⟩ => ?_
 have key : decide (l = Nt.digits M) = true ↔ (NatN u x N K ∧ N = M) := by
  rw [decide_eq_true_iff]
  constructor
  ·intro e1
   have e2 : N = M := by have := Nt.zyh M; rw [← e1, a4] at this; omega
   subst e2
   have hx := a1.1
   exact ⟨⟨by rw [← hx, e1]; rfl, e1 ▸ a1, by unfold dl; rw [← e1, hx]; exact a3⟩, rfl⟩
  ·rintro ⟨h3, rfl⟩
   exact a1.same h3.2.1
 obtain ⟨v, u', p1, p2, p3, p4, p5⟩ := post_below (w' := w') (v := .bool (decide (l = Nt.digits M))) d he (by rw [hk]; exact below_drewN w k)
 exact ⟨v, u', p1, p2, p3, p4, _, p5, key⟩
end
section
variable {P : Program} {ops : Array Oper} {w0 : Base} {u0 : World} {S : St} {u u' w : World} {o : Oper} {p : List Tmp} {seq : Bool} {rest : List (Oper × List Tmp)} {K : St → World → Prop}
theorem unwantedU {g : Nat} {b : Bool} {t : Tmp} (h : o.guard = some (g, b)) (ht : (ops[g]?).bind (·.dst) = some t) (hS : S.reg t = some (.v undef)) : ∀ B a, RegOK S B a → Want ops o a false := fun B a hr => by
 have := hr.reg t _ hS
 simp [Want, Region.wanted, h, yielded, ht, this, SV.conc, undef]
end
section
variable {u u' : World} {A : Option Addr} {n c i : Nat} {l : List Int} {k : IntKind}
end
theorem k_intValid {u w : World} {i : IL} {z : Int} {K : Nat} (d : Dat u w) (hi : IntV u i z K) : Calls Tryz.prog 172 #[i.v] w (Post u w fun v _ => ∃ b : Bool, v = .bool b ∧ (b = true ↔ IntN u i z K)) := by
 refine zzk (args := [i.v]) Tryz.func172 rfl Tryz.ntmps172 (rs := [.tmp 2]) Tryz.results172 (le_b rfl) (le_b rfl) d ?_
 refine sq9 ?_
 refine zzi 1 ⟨24, i.cs⟩ ?_
 refine zza 2 (.v (.bool false)) ?_
 refine zzb 17 [(1, .adr 1 0)] [(1, ⟨24, i.cs⟩)] ?_
 refine sq9 ?_
 refine zza 3 (.adr 1 1) ?_
 refine zzg 4 (.v i.m.v) ty22 zzj ?_
 refine zzf 5 173 [i.m.v] ?_
 intro w11 u11 e11 d11
 have k16 := k_natNormal d11 ((IntV.abs hi).ext e11)
 with_reducible refine Post.mono k16 ?_
 rintro _ u14 g15 ⟨b12, rfl, hv13⟩
 rcases Bool.eq_false_or_eq_true b12 with hs17 | hs17
 ·refine zyl 6 (x := .v (.bool b12)) (.v (.bool true)) (by rw [hs17]) ?_
  refine zza 7 (.adr 1 0) ?_ (hw := w1 3 true 6)
  refine zzg 8 (.v (.bool i.s)) ty4 zzj ?_ (hw := w1 3 true 6)
  rcases Bool.eq_false_or_eq_true i.s with hs18 | hs18
  ·refine zyl 9 (x := .v (.bool i.s)) (.v (.bool true)) (by rw [hs18]) ?_ (hw := w1 3 true 6)
   refine zza 10 (.adr 1 1) ?_ (hw := w1 6 true 9)
   refine zzg 11 (.v i.m.v) ty22 zzj ?_ (hw := w1 6 true 9)
   refine zza 12 (.v (.int .i64 (i.m.n : Int))) ?_ (hw := w1 6 true 9)
   refine zza 13 (.v (.bool ((i.m.n : Int) == 0))) ?_ (hw := w1 6 true 9)
   refine zza 14 (.v (.bool ((i.m.n : Int) == 0))) ?_ (hw := w1 3 true 6)
   refine zza 15 (.v (.bool (!((i.m.n : Int) == 0)))) ?_ (hw := w1 3 true 6)
   refine zza 16 (.v (.bool (!((i.m.n : Int) == 0)))) ?_
   refine zza 2 (.v (.bool (!((i.m.n : Int) == 0)))) ?_
   refine zzb 17 [(2, .v (.bool (!((i.m.n : Int) == 0))))] [] ?_
   refine zzm (ret0 [.bool (!((i.m.n : Int) == 0))] ⟨zzo, trivial⟩ fun u19 e20 => ?_)
   have hgb12 : b12 = true ↔ NatN u i.m z.natAbs K := hv13.trans (NatN.same (IntV.abs hi) e11)
   refine ⟨_, rfl, ?_⟩
   rw [int_norm hi, ← hgb12]
   simp [hs17, hs18]
  ·refine zyl 9 (x := .v (.bool i.s)) (.v (.bool false)) (by rw [hs18]) ?_ (hw := w1 3 true 6)
   refine zzl 10 (uw 6 true false 9) ?_
   refine zzl 11 (uw 6 true false 9) ?_
   refine zzl 12 (uw 6 true false 9) ?_
   refine zzl 13 (uw 6 true false 9) ?_
   refine zza 14 (.v (.bool false)) ?_ (hw := w1 3 true 6)
   refine zza 15 (.v (.bool true)) ?_ (hw := w1 3 true 6)
   refine zza 16 (.v (.bool true)) ?_
   refine zza 2 (.v (.bool true)) ?_
   refine zzb 17 [(2, .v (.bool true))] [] ?_
   refine zzm (ret0 [.bool true] ⟨zzo, trivial⟩ fun u21 e22 => ?_)
   have hgb12 : b12 = true ↔ NatN u i.m z.natAbs K := hv13.trans (NatN.same (IntV.abs hi) e11)
   refine ⟨_, rfl, ?_⟩
   rw [int_norm hi, ← hgb12]
   simp [hs17, hs18]
 ·refine zyl 6 (x := .v (.bool b12)) (.v (.bool false)) (by rw [hs17]) ?_
  refine zzl 7 (uw 3 true false 6) ?_
  refine zzl 8 (uw 3 true false 6) ?_
  refine zzl 9 (uw 3 true false 6) ?_
  refine zzl 10 (unwantedU (g := 6) (b := true) (t := 9) (by kernel_rfl) (by kernel_rfl) (by kernel_rfl)) ?_
  refine zzl 11 (unwantedU (g := 6) (b := true) (t := 9) (by kernel_rfl) (by kernel_rfl) (by kernel_rfl)) ?_
  refine zzl 12 (unwantedU (g := 6) (b := true) (t := 9) (by kernel_rfl) (by kernel_rfl) (by kernel_rfl)) ?_
  refine zzl 13 (unwantedU (g := 6) (b := true) (t := 9) (by kernel_rfl) (by kernel_rfl) (by kernel_rfl)) ?_
  refine zzl 14 (uw 3 true false 6) ?_
  refine zzl 15 (uw 3 true false 6) ?_
  refine zza 16 (.v (.bool false)) ?_
  refine zza 2 (.v (.bool false)) ?_
  refine zzb 17 [(2, .v (.bool false))] [] ?_
  refine zzm (ret0 [.bool false] ⟨zzo, trivial⟩ fun u23 e24 => ?_)
  have hgb12 : b12 = true ↔ NatN u i.m z.natAbs K := hv13.trans (NatN.same (IntV.abs hi) e11)
  refine ⟨_, rfl, ?_⟩
  rw [int_norm hi, ← hgb12]
  simp [hs17]
theorem k_ratValid {u w : World} {r : RL} {q : Rat} {K : Nat} (d : Dat u w) (hr : RatV u r q K) (hK : K ≤ 400000000) : Calls Tryz.prog 131 #[r.v] w (Post u w fun v _ => ∃ b : Bool, v = .bool b ∧ (b = true ↔ RatN u r q K)) := by
 obtain ⟨⟨z, D, hi, hd, hq⟩, hK1⟩ := hr
 refine zzk (args := [r.v]) Tryz.func131 rfl Tryz.ntmps131 (rs := [.tmp 2]) Tryz.results131 (le_b rfl) (le_b rfl) d ?_
 refine sq9 ?_
 refine zzi 1 ⟨26, r.cs⟩ ?_
 refine zza 2 (.v (.bool false)) ?_
 refine zzb 26 [(1, .adr 1 0)] [(1, ⟨26, r.cs⟩)] ?_
 refine zzc ?_
 refine sq9 ?_
 refine zza 3 (.adr 1 0) ?_
 refine zzg 4 (.v (.agg #[.bool r.s, r.m.v])) ty24 zzd ?_
 refine zzf 5 172 [.agg #[.bool r.s, r.m.v]] ?_
 intro w11 u11 e11 d11
 have k16 := k_intValid d11 (hi.ext e11)
 with_reducible refine Post.mono k16 ?_
 rintro _ u14 g15 ⟨b12, rfl, hv13⟩
 refine zza 6 (.v (.bool (!b12))) ?_
 rcases Bool.eq_false_or_eq_true (!b12) with hs17 | hs17
 ·refine zyl 7 (x := .v (.bool (!b12))) (.v (.bool true)) (by rw [hs17]) ?_
  refine zzl 8 (uw 4 false true 7) ?_
  refine zzl 9 (uw 4 false true 7) ?_
  refine zzl 10 (uw 4 false true 7) ?_
  refine zzl 11 (uw 4 false true 7) ?_
  refine zza 12 (.v (.bool true)) ?_
  refine zza 13 (.v (.bool true)) ?_
  refine zzl 14 (uw 10 false true 13) ?_
  refine zzl 15 (uw 10 false true 13) ?_
  refine zzl 16 (uw 10 false true 13) ?_
  refine zzl 17 (uw 10 false true 13) ?_
  refine zza 18 (.v (.bool true)) ?_
  refine zzb 26 [(1, .adr 1 0), (18, .v (.bool true))] [(1, ⟨26, r.cs⟩)] ?_
  refine zym (by kernel_rfl) ?_
  refine sq9 ?_
  refine zza 2 (.v (.bool false)) ?_
  refine zzb 26 [(2, .v (.bool false))] [] ?_
  refine zzm (zzu (ret0 [.bool false] ⟨zzo, trivial⟩ fun u18 e19 => ?_))
  have hgb12 : b12 = true ↔ IntN u ⟨r.s, r.m⟩ z K := hv13.trans (IntN.same hi e11)
  refine ⟨_, rfl, ?_⟩
  rw [hq, rat_norm hi hd hK1, ← hgb12]
  have nhs17 : b12 = false := by simpa using hs17
  simp [nhs17]
 ·refine zyl 7 (x := .v (.bool (!b12))) (.v (.bool false)) (by rw [hs17]) ?_
  refine zza 8 (.adr 1 2) ?_ (hw := w1 4 false 7)
  refine zzg 9 (.v r.d.v) ty22 zzj ?_ (hw := w1 4 false 7)
  refine zzf 10 173 [r.d.v] ?_ (hw := w1 4 false 7)
  intro w20 u20 e20 d20
  have k25 := k_natNormal d20 (hd.ext (e11.trans (g15.ext.trans e20)))
  with_reducible refine Post.mono k25 ?_
  rintro _ u23 g24 ⟨b21, rfl, hv22⟩
  refine zza 11 (.v (.bool (!b21))) ?_ (hw := w1 4 false 7)
  refine zza 12 (.v (.bool (!b21))) ?_
  rcases Bool.eq_false_or_eq_true (!b21) with hs26 | hs26
  ·refine zyl 13 (x := .v (.bool (!b21))) (.v (.bool true)) (by rw [hs26]) ?_
   refine zzl 14 (uw 10 false true 13) ?_
   refine zzl 15 (uw 10 false true 13) ?_
   refine zzl 16 (uw 10 false true 13) ?_
   refine zzl 17 (uw 10 false true 13) ?_
   refine zza 18 (.v (.bool true)) ?_
   refine zzb 26 [(1, .adr 1 0), (18, .v (.bool true))] [(1, ⟨26, r.cs⟩)] ?_
   refine zym (by kernel_rfl) ?_
   refine sq9 ?_
   refine zza 2 (.v (.bool false)) ?_
   refine zzb 26 [(2, .v (.bool false))] [] ?_
   refine zzm (zzu (ret0 [.bool false] ⟨zzo, trivial⟩ fun u27 e28 => ?_))
   have hgb12 : b12 = true ↔ IntN u ⟨r.s, r.m⟩ z K := hv13.trans (IntN.same hi e11)
   have hgb21 : b21 = true ↔ NatN u r.d D K := hv22.trans (NatN.same hd (e11.trans (g15.ext.trans e20)))
   refine ⟨_, rfl, ?_⟩
   rw [hq, rat_norm hi hd hK1, ← hgb12, ← hgb21]
   have nhs17 : b12 = true := by simpa using hs17
   have nhs26 : b21 = false := by simpa using hs26
   simp [nhs17, nhs26]
  ·refine zyl 13 (x := .v (.bool (!b21))) (.v (.bool false)) (by rw [hs26]) ?_
   refine zza 14 (.adr 1 2) ?_ (hw := w1 10 false 13)
   refine zzg 15 (.v r.d.v) ty22 zzj ?_ (hw := w1 10 false 13)
   refine zza 16 (.v (.int .i64 (r.d.n : Int))) ?_ (hw := w1 10 false 13)
   refine zza 17 (.v (.bool ((r.d.n : Int) == 0))) ?_ (hw := w1 10 false 13)
   refine zza 18 (.v (.bool ((r.d.n : Int) == 0))) ?_
   refine zzb 26 [(1, .adr 1 0), (18, .v (.bool ((r.d.n : Int) == 0)))] [(1, ⟨26, r.cs⟩)] ?_
   refine zzs (b := (r.d.n : Int) == 0) (by kernel_rfl) (fun hb29 => ?_) (fun hb29 => ?_)
   ·replace hb29 : ((r.d.n : Int) == 0) = true := hb29
    have qhb29 : (r.d.n : Int) = 0 := by simpa using hb29
    refine sq9 ?_
    refine zza 2 (.v (.bool false)) ?_
    refine zzb 26 [(2, .v (.bool false))] [] ?_
    refine zzm (zzu (ret0 [.bool false] ⟨zzo, trivial⟩ fun u30 e31 => ?_))
    have hgb12 : b12 = true ↔ IntN u ⟨r.s, r.m⟩ z K := hv13.trans (IntN.same hi e11)
    have hgb21 : b21 = true ↔ NatN u r.d D K := hv22.trans (NatN.same hd (e11.trans (g15.ext.trans e20)))
    refine ⟨_, rfl, ?_⟩
    rw [hq, rat_norm hi hd hK1, ← hgb12, ← hgb21]
    have nhs17 : b12 = true := by simpa using hs17
    have nhs26 : b21 = true := by simpa using hs26
    have hz9 : r.d.n = 0 := by have h9 := hb29; simp at h9; omega
    simp [nhs17, nhs26, hz9]
   ·replace hb29 : ((r.d.n : Int) == 0) = false := hb29
    have qhb29 : ¬ ((r.d.n : Int) = 0) := by simpa using hb29
    refine zzq (zzn ?_)
    refine sq9 ?_
    refine zza 19 (.adr 1 0) ?_
    refine zza 20 (.adr 1 1) ?_
    refine zzg 21 (.v r.m.v) ty22 zzj ?_
    refine zza 22 (.adr 1 2) ?_
    refine zzg 23 (.v r.d.v) ty22 zzj ?_
    refine zzf 24 175 [r.m.v, r.d.v] ?_
    intro w32 u32 e32 d32
    have k37 := k_natGcd d32 ((IntV.abs hi).ext (e11.trans (g15.ext.trans (e20.trans (g24.ext.trans e32))))) (hd.ext (e11.trans (g15.ext.trans (e20.trans (g24.ext.trans e32))))) (by omega) (by omega)
    with_reducible refine Post.mono k37 ?_
    rintro _ u35 g36 ⟨x33, rfl, h34⟩
    refine zzf 25 174 [x33.v] ?_
    intro w38 u38 e38 d38
    have k41 := k_isOne d38 (h34.ext e38)
    with_reducible refine Post.mono k41 ?_
    rintro _ u39 g40 rfl
    refine zza 2 (.v (.bool (decide ((Nat.gcd (z : Int).natAbs D) = 1)))) ?_
    refine zzb 26 [(2, .v (.bool (decide ((Nat.gcd (z : Int).natAbs D) = 1))))] [] ?_
    refine zzm (ret0 [.bool (decide ((Nat.gcd (z : Int).natAbs D) = 1))] ⟨zzo, trivial⟩ fun u42 e43 => ?_)
    have hgb12 : b12 = true ↔ IntN u ⟨r.s, r.m⟩ z K := hv13.trans (IntN.same hi e11)
    have hgb21 : b21 = true ↔ NatN u r.d D K := hv22.trans (NatN.same hd (e11.trans (g15.ext.trans e20)))
    refine ⟨_, rfl, ?_⟩
    rw [hq, rat_norm hi hd hK1, ← hgb12, ← hgb21]
    have nhs17 : b12 = true := by simpa using hs17
    have nhs26 : b21 = true := by simpa using hs26
    have hz9 : r.d.n ≠ 0 := by have h9 := hb29; simp at h9; omega
    simp [nhs17, nhs26, hz9]
theorem k_riSameV {u w : World} {i j : IL} {z z' : Int} {K L : Nat} (d : Dat u w) (hi : IntV u i z K) (hj : IntN u j z' L) : Calls Tryz.prog 137 #[i.v, j.v] w (Post u w fun v _ => ∃ b : Bool, v = .bool b ∧ (b = true ↔ (IntN u i z K ∧ z = z'))) := by
 refine zzk (args := [i.v, j.v]) Tryz.func137 rfl Tryz.ntmps137 (rs := [.tmp 4]) Tryz.results137 (le_b rfl) (le_b rfl) d ?_
 refine sq9 ?_
 refine zzi 2 ⟨24, i.cs⟩ ?_
 refine zzi 3 ⟨24, j.cs⟩ ?_
 refine zza 4 (.v (.bool false)) ?_
 refine zzb 17 [(2, .adr 2 0), (3, .adr 3 0)] [(2, ⟨24, i.cs⟩), (3, ⟨24, j.cs⟩)] ?_
 refine sq9 ?_
 refine zza 5 (.adr 2 0) ?_
 refine zzg 6 (.v (.bool i.s)) ty4 zzj ?_
 refine zza 7 (.adr 3 0) ?_
 refine zzg 8 (.v (.bool j.s)) ty4 zzj ?_
 refine zza 9 (.v (.bool (i.s == j.s))) ?_
 rcases Bool.eq_false_or_eq_true (i.s == j.s) with hs11 | hs11
 ·refine zyl 10 (x := .v (.bool (i.s == j.s))) (.v (.bool true)) (by rw [hs11]) ?_
  refine zza 11 (.adr 2 1) ?_ (hw := w1 5 true 10)
  refine zzg 12 (.v i.m.v) ty22 zzj ?_ (hw := w1 5 true 10)
  refine zza 13 (.adr 3 1) ?_ (hw := w1 5 true 10)
  refine zzg 14 (.v j.m.v) ty22 zzj ?_ (hw := w1 5 true 10)
  refine zzf 15 138 [i.m.v, j.m.v] ?_ (hw := w1 5 true 10)
  intro w12 u12 e12 d12
  have k17 := k_rnSameV d12 ((IntV.abs hi).ext e12) ((int_mag hj).ext e12)
  with_reducible refine Post.mono k17 ?_
  rintro _ u15 g16 ⟨b13, rfl, hv14⟩
  refine zza 16 (.v (.bool b13)) ?_
  refine zza 4 (.v (.bool b13)) ?_
  refine zzb 17 [(4, .v (.bool b13))] [] ?_
  refine zzm (ret0 [.bool b13] ⟨zzo, trivial⟩ fun u18 e19 => ?_)
  have hgb13 : b13 = true ↔ (NatN u i.m z.natAbs K ∧ z.natAbs = z'.natAbs) := hv14.trans (and_congr_left' (NatN.same (IntV.abs hi) e12))
  refine ⟨_, rfl, ?_⟩
  rw [int_eq hi hj, ← hgb13]
  simp [hs11]
 ·refine zyl 10 (x := .v (.bool (i.s == j.s))) (.v (.bool false)) (by rw [hs11]) ?_
  refine zzl 11 (uw 5 true false 10) ?_
  refine zzl 12 (uw 5 true false 10) ?_
  refine zzl 13 (uw 5 true false 10) ?_
  refine zzl 14 (uw 5 true false 10) ?_
  refine zzl 15 (uw 5 true false 10) ?_
  refine zza 16 (.v (.bool false)) ?_
  refine zza 4 (.v (.bool false)) ?_
  refine zzb 17 [(4, .v (.bool false))] [] ?_
  refine zzm (ret0 [.bool false] ⟨zzo, trivial⟩ fun u20 e21 => ?_)
    
  refine ⟨_, rfl, ?_⟩
  rw [int_eq hi hj]
  simp [hs11]
theorem k_rqSameV {u w : World} {r s : RL} {q y : Rat} {K L : Nat} (d : Dat u w) (hr : RatV u r q K) (hs : RatN u s y L) : Calls Tryz.prog 71 #[r.v, s.v] w (Post u w fun v _ => ∃ b : Bool, v = .bool b ∧ (b = true ↔ (RatN u r q K ∧ q = y))) := by
 obtain ⟨⟨z, D, hi, hd, hq⟩, hK1⟩ := hr
 refine zzk (args := [r.v, s.v]) Tryz.func71 rfl Tryz.ntmps71 (rs := [.tmp 4]) Tryz.results71 (le_b rfl) (le_b rfl) d ?_
 refine sq9 ?_
 refine zzi 2 ⟨26, r.cs⟩ ?_
 refine zzi 3 ⟨26, s.cs⟩ ?_
 refine zza 4 (.v (.bool false)) ?_
 refine zzb 17 [(2, .adr 2 0), (3, .adr 3 0)] [(2, ⟨26, r.cs⟩), (3, ⟨26, s.cs⟩)] ?_
 refine sq9 ?_
 refine zza 5 (.adr 2 0) ?_
 refine zzg 6 (.v (.agg #[.bool r.s, r.m.v])) ty24 zzd ?_
 refine zza 7 (.adr 3 0) ?_
 refine zzg 8 (.v (.agg #[.bool s.s, s.m.v])) ty24 zzd ?_
 refine zzf 9 137 [.agg #[.bool r.s, r.m.v], .agg #[.bool s.s, s.m.v]] ?_
 intro w11 u11 e11 d11
 have k16 := k_riSameV d11 (hi.ext e11) ((RatN.num hs).ext e11)
 with_reducible refine Post.mono k16 ?_
 rintro _ u14 g15 ⟨b12, rfl, hv13⟩
 rcases Bool.eq_false_or_eq_true b12 with hs17 | hs17
 ·refine zyl 10 (x := .v (.bool b12)) (.v (.bool true)) (by rw [hs17]) ?_
  refine zza 11 (.adr 2 2) ?_ (hw := w1 5 true 10)
  refine zzg 12 (.v r.d.v) ty22 zzj ?_ (hw := w1 5 true 10)
  refine zza 13 (.adr 3 2) ?_ (hw := w1 5 true 10)
  refine zzg 14 (.v s.d.v) ty22 zzj ?_ (hw := w1 5 true 10)
  refine zzf 15 138 [r.d.v, s.d.v] ?_ (hw := w1 5 true 10)
  intro w18 u18 e18 d18
  have k23 := k_rnSameV d18 (hd.ext (e11.trans (g15.ext.trans e18))) ((RatN.den hs).ext (e11.trans (g15.ext.trans e18)))
  with_reducible refine Post.mono k23 ?_
  rintro _ u21 g22 ⟨b19, rfl, hv20⟩
  refine zza 16 (.v (.bool b19)) ?_
  refine zza 4 (.v (.bool b19)) ?_
  refine zzb 17 [(4, .v (.bool b19))] [] ?_
  refine zzm (ret0 [.bool b19] ⟨zzo, trivial⟩ fun u24 e25 => ?_)
  have hgb12 : b12 = true ↔ (IntN u ⟨r.s, r.m⟩ z K ∧ z = y.num) := hv13.trans (and_congr_left' (IntN.same hi e11))
  have hgb19 : b19 = true ↔ (NatN u r.d D K ∧ D = y.den) := hv20.trans (and_congr_left' (NatN.same hd (e11.trans (g15.ext.trans e18))))
  refine ⟨_, rfl, ?_⟩
  rw [rat_eq hi hd hq, ← hgb12, ← hgb19]
  simp [hs17]
 ·refine zyl 10 (x := .v (.bool b12)) (.v (.bool false)) (by rw [hs17]) ?_
  refine zzl 11 (uw 5 true false 10) ?_
  refine zzl 12 (uw 5 true false 10) ?_
  refine zzl 13 (uw 5 true false 10) ?_
  refine zzl 14 (uw 5 true false 10) ?_
  refine zzl 15 (uw 5 true false 10) ?_
  refine zza 16 (.v (.bool false)) ?_
  refine zza 4 (.v (.bool false)) ?_
  refine zzb 17 [(4, .v (.bool false))] [] ?_
  refine zzm (ret0 [.bool false] ⟨zzo, trivial⟩ fun u26 e27 => ?_)
  have hgb12 : b12 = true ↔ (IntN u ⟨r.s, r.m⟩ z K ∧ z = y.num) := hv13.trans (and_congr_left' (IntN.same hi e11))
  refine ⟨_, rfl, ?_⟩
  rw [rat_eq hi hd hq, ← hgb12]
  simp [hs17]
namespace Nt
def flr (q : Rat) : Int := q.num / (q.den : Int)
def dnQ (q : Rat) (k : Nat) : Rat := mkRat (flr (q * ((2 ^ k : Nat) : Rat))) (2 ^ k)
theorem flr_mk {z : Int} {D : Nat} (hD : 0 < D) : flr (mkRat z D) = z / (D : Int) := by
 have h1 : mkRat z D = mkRat (mkRat z D).num (mkRat z D).den := (Rat.mkRat_self _).symm
 rw [Rat.mkRat_eq_iff (by omega) (by have := (mkRat z D).den_pos; omega)] at h1
 have hd := (mkRat z D).den_pos
 unfold flr
 generalize (mkRat z D).num = n at *
 generalize (mkRat z D).den = d at *
 have e1 : z / (D : Int) = ((d : Int) * z) / ((d : Int) * (D : Int)) := (Int.mul_ediv_mul_of_pos _ _ (by omega)).symm
 have e2 : n / (d : Int) = ((D : Int) * n) / ((D : Int) * (d : Int)) := (Int.mul_ediv_mul_of_pos _ _ (by omega)).symm
 rw [e1, e2, Int.mul_comm (d : Int) z, h1, Int.mul_comm n, Int.mul_comm (d : Int)]
theorem shl_mk (z : Int) (D m : Nat) : mkRat z D * ((m : Nat) : Rat) = mkRat (z * (m : Int)) D := by
 rw [Rat.mkRat_eq_div, Rat.mkRat_eq_div, Rat.intCast_mul]
 show (z : Rat) / (D : Rat) * (m : Rat) = (z : Rat) * ((m : Int) : Rat) / (D : Rat)
 have : ((m : Int) : Rat) = (m : Rat) := rfl
 rw [this]
 grind
theorem dn_mk {z : Int} {D k : Nat} (hD : 0 < D) : dnQ (mkRat z D) k = mkRat ((z * ((2 ^ k : Nat) : Int)) / (D : Int)) (2 ^ k) := by
 unfold dnQ
 rw [shl_mk, flr_mk hD]
theorem sg_mulN {s : Bool} {N m : Nat} : sg s ((sg s N).natAbs * m) = sg s N * (m : Int) := by
 rw [sg_abs]
 unfold sg
 cases s
 ·simp
 ·simp [Int.neg_mul]
theorem rdiv0 {s : Bool} {N D : Nat} (hD : 0 < D) (h : ¬ (s = true ∧ 0 < N % D)) : sg s N / (D : Int) = sg (!(s == false)) (N / D) ∧ sg s N % (D : Int) = sg false (N % D) := by
 have hm := Nat.mod_lt N hD
 have hk := Nat.div_add_mod N D
 have hk2 : (N : Int) = (D : Int) * ((N / D : Nat) : Int) + ((N % D : Nat) : Int) := by rw [← Int.natCast_mul, ← Int.natCast_add, hk]
 apply ediv_uniq (by omega)
 ·unfold sg
  cases s
  ·simpa using hk2
  ·have h0 : N % D = 0 := by simp at h; omega
   rw [h0] at hk2 ⊢
   generalize N / D = Q at *
   simp [Int.mul_neg]
   omega
 ·unfold sg; simp; omega
 ·unfold sg; simp; omega
theorem rdiv1 {N D : Nat} (hD : 0 < D) (h : 0 < N % D) : sg true N / (D : Int) = sg (!(true == false)) (N / D + 1) ∧ sg true N % (D : Int) = sg false (D - N % D) := by
 have hm := Nat.mod_lt N hD
 have hk := Nat.div_add_mod N D
 have hk2 : (N : Int) = (D : Int) * ((N / D : Nat) : Int) + ((N % D : Nat) : Int) := by rw [← Int.natCast_mul, ← Int.natCast_add, hk]
 apply ediv_uniq (by omega)
 ·unfold sg
  simp
  rw [show ((N : Int) / (D : Int)) = ((N / D : Nat) : Int) from rfl, show ((D - N % D : Nat) : Int) = (D : Int) - ((N % D : Nat) : Int) by omega, Int.mul_neg, Int.mul_add]
  omega
 ·unfold sg; simp
 ·unfold sg; simp; omega
end Nt
theorem own_strip {w0 w : World} {B : Nat} {A : Option Addr} {n c : Nat} {l : List Int} (h : OwnK .u32 w B 105 A n c l) (hd : Nt.Dig l) (hB : w0.heap.size ≤ B) : NatF w0 w A (Nt.strip l).length c (Nt.val l).toNat := by
 have e := Nt.strip_eq hd
 have hl := Nt.zyg l
 have h1 := h.1
 have hx := h.slr.upto (m := (Nt.strip l).length) (by omega)
 rw [← Nt.strip_take, e] at hx
 refine ⟨by rw [e], by rw [e]; exact hx, fun hp => ?_⟩
 obtain ⟨a, ha, hb, ht⟩ := h.ty (by omega)
 exact ⟨a, ha, by omega, ht⟩
theorem Nt.raise_val {q s : Nat} {a S : List Int} (hq : q = s / 32) (h : Nt.val S = Nt.val a * 2 ^ (s % 32)) : Nt.val (List.replicate q 0 ++ S) = Nt.val a * 2 ^ s := by
 rw [Nt.val_append, Nt.val_repl, h, Nt.p2_pw s, ← hq]
 simp
 rw [Int.mul_comm, Int.mul_assoc]
theorem Nt.bitl_le_len (l : List Int) (h : Nt.Dig l) : Nt.bitl (Nt.val l).toNat ≤ 32 * l.length := by
 rcases Nat.eq_zero_or_pos (Nt.val l).toNat with h0 | h0
 ·rw [h0]; exact Nat.zero_le _
 ·have h1 := Nt.val_lt h
  rw [Nt.pw_two] at h1
  have h2 := Nt.bitl_le h0
  have h3 : 2 ^ (Nt.bitl (Nt.val l).toNat - 1) < 2 ^ (32 * l.length) := by omega
  have := (Nat.pow_lt_pow_iff_right (show 1 < 2 by omega)).1 h3
  omega
theorem Nt.dl_shift {N K s : Nat} (h : dl N ≤ K) : dl (N * 2 ^ s) ≤ K + s / 32 + 1 := by
 apply Nt.dl_le
 have h1 := Nt.dl_lt (x := N)
 have h2 := Nt.pw_mono h
 rw [Nt.pw_two] at h1 ⊢
 rw [Nt.pw_two, Nt.pw_two] at h2
 have h3 : N < 2 ^ (32 * K) := by omega
 have h4 : N * 2 ^ s < 2 ^ (32 * K) * 2 ^ s := Nat.mul_lt_mul_of_pos_right h3 (Nat.pow_pos (by omega))
 rw [← Nat.pow_add] at h4
 have h5 : 2 ^ (32 * K + s) ≤ 2 ^ (32 * (K + s / 32 + 1)) := Nat.pow_le_pow_right (by omega) (by omega)
 have h6 := Nat.lt_of_lt_of_le h4 h5
 exact_mod_cast h6
set_option maxHeartbeats 2000000 in
theorem raise_any (A : Option Addr) (n c s : Nat) (a : List Int) (w : World) (ha : SlR .u32 w A n c a) (da : Nt.Dig a) (hn : n ≤ 1000000000) (hs : s ≤ 65536) :
  Calls Tryz.prog 212 #[.slice A n c, .int .i64 s] w fun e w' => ∃ A' n' c', e = .returned (.slice A' n' c') ∧ NatF w w' A' n' c' (Nt.val a * 2 ^ s).toNat ∧ Below w.heap.size w w' := by
 rcases Nat.eq_zero_or_pos n with h0 | h0
 ·subst h0
  have hz : Hid ((Nt.val a * 2 ^ s).toNat = 0) := by
   have e1 : a = [] := List.eq_nil_of_length_eq_zero ha.1
   show _ = _
   rw [e1]; simp [Nt.val]
  clear da ha
  go_enter Tryz.func212, Tryz.ntmps212
  go_wp2
  go_ret
  refine ⟨none, 0, 0, rfl, ?_, Below.refl _ _⟩
  rw [hz.out]
  exact ⟨by rw [Nt.digits_zero]; rfl, by rw [Nt.digits_zero]; exact SlR.nil _ _ _ (Nat.zero_le _), fun h => absurd h (by omega)⟩
 ·have hn0 : ((n : Int) == 0) = false := by rw [beq_eq_false_iff_ne]; omega
  obtain ⟨q, hq1, hq2⟩ : ∃ q, 32 * q ≤ s ∧ s < 32 * q + 32 := ⟨s / 32, by omega, by omega⟩
  have hqs : Hid (q = s / 32) := by show _ = _; omega
  have hr32 : s % 32 < 32 := by omega
  have Hda := Lib.hid da
  clear da
  go_enter Tryz.func212, Tryz.ntmps212
  go_wp2_with (at_make; refine wpList_makeKC _ rfl (.tmp 10) (.tmp 16) _ rfl 105 .u32 4 Tryz.underlying22 u32_info _ _ _ _ q (q + n + 1) rfl rfl ?L ?C ?nm ?b2 ?b3 ?_)
  case L => show _ = _; omega
  case C => show _ = _; omega
  case nm => omega
  case b2 => omega
  case b3 => unfold maxLen; omega
  intro w2 hk2 hb2 hz2
  have hx2 := ha.below hb2
  have HB2 := Lib.hid hb2
  clear hz2 hb2 ha
  go_wp2_with fail
  refine (lift_any A n c (s % 32) (n + 1) a w2 hx2 Hda.out hn hr32 (.inr rfl)).mono ?_
  rintro e w3 ⟨g, rfl, ⟨S, lo, hg, hk, hSl, hSd, hlo, hlo0, hv⟩, hb3⟩
  have hlo0 := hlo0 rfl
  rw [hlo0] at hv
  have hval := Nt.raise_val hqs.out (a := a) (S := S) (by omega)
  have hs3 := Lib.hid (hk.slr_all (n := n + 1) (c := n + 1) hSl (Nat.le_refl _) (by unfold maxLen; omega))
  have hk3 := Lib.hid (hk2.below hb3)
  have Hval := Lib.hid hval
  have Hd := Lib.hid (Nt.Dig.append (Nt.Dig.repl q) hSd)
  have HB3 : Hid (Below w.heap.size w w3) := HB2.out.trans (hb3.mono HB2.out.size)
  have hw3 := HB3.out.size
  clear hval hv hk hg hk2 hlo hlo0 hSl hSd hx2 hb3
  go_wp2_with (at_builtin; refine wpList_appendK _ rfl (.tmp 18) (.tmp 26) _ rfl 105 .u32 4 Tryz.underlying22 u32_info w.heap.size (some ⟨w.heap.size, 0, none⟩) q (q + n + 1) (List.replicate q 0) rfl ?own (some ⟨g, 0, none⟩) (n + 1) (n + 1) S rfl ?slr ?h63 ?hby ?hbase ?_)
  case own => exact hk3.out
  case slr => exact hs3.out
  case h63 => unfold maxLen; omega
  case hby => omega
  case hbase => omega
  intro A3 c3 w4 ho hb4
  have HO := Lib.hid ho
  have HB4 : Hid (Below w.heap.size w w4) := HB3.out.trans hb4
  clear hs3 hk3 ho hb4
  go_wp2_with fail
  refine (cut_any _ _ _ _ _ HO.out.slr).mono ?_
  rintro e w5 ⟨rfl, rfl⟩
  go_wp2
  go_ret
  have hf := own_strip HO.out Hd.out (Nat.le_refl _)
  rw [Hval.out] at hf
  exact ⟨_, _, _, rfl, hf, HB4.out⟩
set_option maxHeartbeats 1000000 in
theorem Shift_pos (A : Option Addr) (n c s : Nat) (a : List Int) (w : World) (ha : SlR .u32 w A n c a) (da : Nt.Dig a) (hn : n ≤ 1000000000) (hs : s ≤ 65536) :
  Calls Tryz.prog 196 #[.slice A n c, .int .i64 s] w fun e w' => ∃ A' n' c', e = .returned (.slice A' n' c') ∧ NatF w w' A' n' c' (Nt.val a * 2 ^ s).toNat ∧ Below w.heap.size w w' := by
 have lx : (Nt.strip a).length ≤ n := by rw [← ha.1]; exact Nt.zyg a
 have hx := ha.upto (m := (Nt.strip a).length) lx
 rw [← Nt.strip_take] at hx
 have hd := Nt.strip_dig da
 have hv := Nt.strip_val a
 have hsd : decide (65536 < (s : Int)) = false := by simp; omega
 have hbl := Nt.bitl_le_len (Nt.strip a) hd
 have hraise := raise_any A (Nt.strip a).length c s (Nt.strip a) w hx hd (by omega) hs
 have hbit := BitLen_any A (Nt.strip a).length c (Nt.strip a) w hx hd (by omega)
 rw [hv] at hraise hbit hbl
 have hz : Nt.bitl (Nt.val a).toNat = 0 → Nt.val a = 0 := fun h => by
  have h1 := Nt.bitl_lt (Nt.val a).toNat
  have h2 := Nt.val_nonneg da
  rw [h] at h1
  simp at h1
  omega
 generalize Nt.bitl (Nt.val a).toNat = B at *
 have hcut := cut_any A n c a w ha
 generalize (Nt.strip a).length = m at *
 by_cases h0 : (s : Int) ≤ -(B : Int)
 ·have hz2 : Hid ((Nt.val a * 2 ^ s).toNat = 0) := by
   show _ = _
   rw [hz (by omega)]; simp
  have hle : decide ((s : Int) ≤ -(B : Int)) = true := decide_eq_true h0
  clear hx ha hd hv hraise hz h0
  go_enter Tryz.func196, Tryz.ntmps196
  go_wp2_with fail
  refine hcut.mono ?_
  rintro e w1 ⟨rfl, rfl⟩
  go_wp2_with fail
  refine hbit.mono ?_
  rintro e w1 ⟨rfl, rfl⟩
  go_wp2
  go_ret
  refine ⟨none, 0, 0, rfl, ?_, Below.refl _ _⟩
  rw [hz2.out]
  exact ⟨by rw [Nt.digits_zero]; rfl, by rw [Nt.digits_zero]; exact SlR.nil _ _ _ (Nat.zero_le _), fun h => absurd h (by omega)⟩
 ·have hle : decide ((s : Int) ≤ -(B : Int)) = false := decide_eq_false h0
  clear hx ha hd hv hz
  go_enter Tryz.func196, Tryz.ntmps196
  go_wp2_with fail
  refine hcut.mono ?_
  rintro e w1 ⟨rfl, rfl⟩
  go_wp2_with fail
  refine hbit.mono ?_
  rintro e w1 ⟨rfl, rfl⟩
  go_wp2_with fail
  refine hraise.mono ?_
  rintro e w1 ⟨A1, n1, c1, rfl, f1, hb1⟩
  have F1 := Lib.hid f1
  clear f1
  go_wp2
  go_ret
  exact ⟨A1, n1, c1, rfl, F1.out, hb1⟩
theorem k_natShift {u w : World} {x : Sl} {N K s : Nat} (d : Dat u w) (h1 : NatV u x N K) (hK : K ≤ 500000000) (hs : s ≤ 65536) : Calls Tryz.prog 196 #[x.v, .int .i64 (s : Int)] w (Post u w fun v u' => ∃ x : Sl, v = x.v ∧ NatN u' x (N * 2 ^ s) (K + s / 32 + 1)) := by
 have hs1 := h1.size
 obtain ⟨a, a1, a2, a3, a4⟩ := h1
 refine (Shift_pos _ _ _ _ _ _ (a1.ext d.ext) a2 (by omega) hs).mono fun e w' ⟨A', n', c', h⟩ => ?_
 rw [a4] at h
 exact post_nat d (nat_fits h (by simp [Int.natCast_mul, Int.natCast_pow])) (Nt.dl_shift hs1)
theorem k_rnShift {u w : World} {x : Sl} {N K s : Nat} (d : Dat u w) (h1 : NatV u x N K) (hK : K ≤ 500000000) (hs : s ≤ 65536) : Calls Tryz.prog 203 #[x.v, .int .i64 (s : Int)] w (Post u w fun v u' => ∃ x : Sl, v = x.v ∧ NatN u' x (N * 2 ^ s) (K + s / 32 + 1)) := by
 have hs1 := h1.size
 obtain ⟨a, a1, a2, a3, a4⟩ := h1
 refine (rShift_pos _ _ _ _ _ _ (a1.ext d.ext) a2 (by omega) hs).mono fun e w' ⟨A', n', c', h⟩ => ?_
 rw [a4] at h
 exact post_nat d (nat_fits ⟨h.1, h.2.1.nat, h.2.2⟩ (by simp [Int.natCast_mul, Int.natCast_pow])) (Nt.dl_shift hs1)
set_option maxHeartbeats 1000000 in
theorem k_intDivP {u w : World} {i1 : IL} {y : Sl} {zN : Int} {M K L : Nat} (d : Dat u w) (hi : IntV u i1 zN K) (hy : NatV u y M L) (hM : 0 < M) (hK : K ≤ 100000000) (hL : L ≤ 100000000) : Calls Tryz.prog 195 #[i1.v, .agg #[.bool false, y.v]] w (Post u w fun v u' => ∃ i j : IL, v = .tuple #[i.v, j.v, .int .i64 0] ∧ IntN u' i (zN / (M : Int)) (K + 1) ∧ IntN u' j (zN % (M : Int)) L) := by
 have hL1 : 1 ≤ L := by have h2 := hy.size; have h3 := Nt.dl_mono (x := M) (y := 1) (by omega); rw [Nt.dl_one] at h3; omega
 obtain ⟨N, hN, hzN⟩ := hi
 refine zzk (args := [i1.v, .agg #[.bool false, .slice y.a y.n y.c]]) Tryz.func195 rfl Tryz.ntmps195 (rs := [.cell 4 24, .cell 5 24, .tmp 6]) Tryz.results195 (le_b rfl) (le_b rfl) d ?_
 refine sq9 ?_
 refine zzi 2 ⟨24, i1.cs⟩ ?_
 refine zzi 3 ⟨24, [.bool false, y.v]⟩ ?_
 refine zzi 4 ⟨24, [.bool false, .slice none 0 0]⟩ ?_
 refine zzi 5 ⟨24, [.bool false, .slice none 0 0]⟩ ?_
 refine zza 6 (.v (.int .i64 0)) ?_
 refine zzb 47 [(2, .adr 2 0), (3, .adr 3 0), (4, .adr 4 0), (5, .adr 5 0)] [(2, ⟨24, i1.cs⟩), (3, ⟨24, [.bool false, y.v]⟩), (4, ⟨24, [.bool false, .slice none 0 0]⟩), (5, ⟨24, [.bool false, .slice none 0 0]⟩)] ?_
 refine sq9 ?_
 refine zza 11 (.adr 2 1) ?_
 refine zzg 12 (.v i1.m.v) ty22 zzj ?_
 refine zza 13 (.adr 3 1) ?_
 refine zzg 14 (.v y.v) ty22 zzj ?_
 refine zzf 15 181 [i1.m.v, y.v] ?_
 intro w11 u11 e11 d11
 have k18 := k_natDivMod d11 (hN.ext e11) (hy.ext e11) hM (by omega) (by omega)
 with_reducible refine Post.mono k18 ?_
 rintro _ u16 g17 ⟨x12, x13, rfl, h14, h15⟩
 refine zza 10 (.v (.tuple #[x12.v, x13.v, .int .i64 0])) ?_
 refine zza 16 (.v x12.v) ?_
 refine zza 17 (.v x13.v) ?_
 refine zza 18 (.v (.int .i64 0)) ?_
 refine zza 7 (.v x12.v) ?_
 refine zza 8 (.v x13.v) ?_
 refine zza 9 (.v (.int .i64 0)) ?_
 refine zzb 47 [(2, .adr 2 0), (3, .adr 3 0), (4, .adr 4 0), (5, .adr 5 0), (7, .v x12.v), (8, .v x13.v), (9, .v (.int .i64 0))] [(2, ⟨24, i1.cs⟩), (3, ⟨24, [.bool false, y.v]⟩), (4, ⟨24, [.bool false, .slice none 0 0]⟩), (5, ⟨24, [.bool false, .slice none 0 0]⟩)] ?_
 refine zzc ?_
 refine sq9 ?_
 refine zza 19 (.v (.int .i64 0)) ?_
 refine zza 20 (.v (.bool false)) ?_
 refine zzb 47 [(2, .adr 2 0), (3, .adr 3 0), (4, .adr 4 0), (5, .adr 5 0), (7, .v x12.v), (8, .v x13.v), (9, .v (.int .i64 0)), (20, .v (.bool false))] [(2, ⟨24, i1.cs⟩), (3, ⟨24, [.bool false, y.v]⟩), (4, ⟨24, [.bool false, .slice none 0 0]⟩), (5, ⟨24, [.bool false, .slice none 0 0]⟩)] ?_
 refine zyn (by kernel_rfl) ?_
 refine zzq (zzn ?_)
 refine zzc ?_
 refine sq9 ?_
 refine zza 24 (.adr 2 0) ?_
 refine zzg 25 (.v (.bool i1.s)) ty4 zzj ?_
 rcases Bool.eq_false_or_eq_true i1.s with hs19 | hs19
 ·refine zyl 26 (x := .v (.bool i1.s)) (.v (.bool true)) (by rw [hs19]) ?_
  refine zza 27 (.v x13.v) ?_ (hw := w1 2 true 26)
  refine zza 28 (.v (.int .i64 (x13.n : Int))) ?_ (hw := w1 2 true 26)
  refine zza 29 (.v (.bool (decide ((0 : Int) < (x13.n : Int))))) ?_ (hw := w1 2 true 26)
  refine zza 30 (.v (.bool (decide ((0 : Int) < (x13.n : Int))))) ?_
  refine zzb 47 [(2, .adr 2 0), (3, .adr 3 0), (4, .adr 4 0), (5, .adr 5 0), (7, .v x12.v), (8, .v x13.v), (30, .v (.bool (decide ((0 : Int) < (x13.n : Int)))))] [(2, ⟨24, i1.cs⟩), (3, ⟨24, [.bool false, y.v]⟩), (4, ⟨24, [.bool false, .slice none 0 0]⟩), (5, ⟨24, [.bool false, .slice none 0 0]⟩)] ?_
  refine zzs (b := decide ((0 : Int) < (x13.n : Int))) (by kernel_rfl) (fun hb20 => ?_) (fun hb20 => ?_)
  ·replace hb20 : (decide ((0 : Int) < (x13.n : Int))) = true := hb20
   have qhb20 := of_decide_eq_true hb20
   refine sq9 ?_
   refine zza 31 (.v x12.v) ?_
   refine sy_data 32 ⟨105, [.int .u32 1]⟩ 1 (fun b21 u22 e23 h24 => ?_)
   refine zzf 33 185 [x12.v, .slice (some ⟨b21, 0, none⟩) 1 1] ?_
   intro w25 u25 e25 d25
   have k30 := k_natAdd d25 (h14.ext (e23.trans e25)).raw ((one_data h24).ext e25).raw (by omega) (by omega)
   with_reducible refine Post.mono k30 ?_
   rintro _ u28 g29 ⟨x26, rfl, h27⟩
   refine zza 7 (.v x26.v) ?_
   refine zzb 47 [(2, .adr 2 0), (3, .adr 3 0), (4, .adr 4 0), (5, .adr 5 0), (7, .v x26.v), (8, .v x13.v)] [(2, ⟨24, i1.cs⟩), (3, ⟨24, [.bool false, y.v]⟩), (4, ⟨24, [.bool false, .slice none 0 0]⟩), (5, ⟨24, [.bool false, .slice none 0 0]⟩)] ?_
   refine zze ?_
   refine zza 34 (.adr 3 1) ?_
   refine zzg 35 (.v y.v) ty22 zzj ?_
   refine zza 36 (.v x13.v) ?_
   refine zzf 37 186 [y.v, x13.v] ?_
   intro w31 u31 e31 d31
   have k36 := k_natSub d31 (hy.ext (e11.trans (g17.ext.trans (e23.trans (e25.trans (g29.ext.trans e31)))))) (h15.ext (e23.trans (e25.trans (g29.ext.trans e31)))).raw (by omega) (by omega)
   with_reducible refine Post.mono k36 ?_
   rintro _ u34 g35 ⟨x32, rfl, h33⟩
   refine zza 8 (.v x32.v) ?_
   refine zzb 47 [(2, .adr 2 0), (3, .adr 3 0), (4, .adr 4 0), (5, .adr 5 0), (7, .v x26.v), (8, .v x32.v)] [(2, ⟨24, i1.cs⟩), (3, ⟨24, [.bool false, y.v]⟩), (4, ⟨24, [.bool false, .slice none 0 0]⟩), (5, ⟨24, [.bool false, .slice none 0 0]⟩)] ?_
   refine sq9 ?_
   refine zza 38 (.adr 2 0) ?_
   refine zzg 39 (.v (.bool i1.s)) ty4 zzj ?_
   refine zza 40 (.adr 3 0) ?_
   refine zzg 41 (.v (.bool false)) ty4 zzj ?_
   refine zza 42 (.v (.bool (!(i1.s == false)))) ?_
   refine zza 43 (.v x26.v) ?_
   refine zzf 44 180 [.bool (!(i1.s == false)), x26.v] ?_
   intro w37 u37 e37 d37
   have k42 := k_signed d37 (s := !(i1.s == false)) (h27.ext (e31.trans (g35.ext.trans e37)))
   with_reducible refine Post.mono k42 ?_
   rintro _ u40 g41 ⟨i38, rfl, h39⟩
   refine zza 45 (.v x32.v) ?_
   refine zzf 46 180 [.bool false, x32.v] ?_
   intro w43 u43 e43 d43
   have k48 := k_signed d43 (s := false) (h33.ext (e37.trans (g41.ext.trans e43)))
   with_reducible refine Post.mono k48 ?_
   rintro _ u46 g47 ⟨i44, rfl, h45⟩
   refine zzh ⟨24, i38.cs⟩ ty24 ?_
   refine zzh ⟨24, i44.cs⟩ ty24 ?_
   refine zza 6 (.v (.int .i64 0)) ?_
   refine zzb 47 [(4, .adr 4 0), (5, .adr 5 0), (6, .v (.int .i64 0))] [(4, ⟨24, i38.cs⟩), (5, ⟨24, i44.cs⟩)] ?_
   refine zzm (ret0 [i38.v, i44.v, .int .i64 0] ⟨zzp ty24 zzd, zzp ty24 zzd, zzo, trivial⟩ fun u49 e50 => ?_)
   have hrp := h15.pos
   have e9 := hs19
   have key := Nt.rdiv1 (N := N) hM (by omega)
   have g1 := (h39.ext (e43.trans (g47.ext.trans e50)))
   have g2 := (h45.ext e50)
   rw [e9] at g1
   rw [e9] at hzN
   have hK1 : 1 ≤ K := by have h2 := hN.size; have h3 := (Nt.dl_pos (x := N)).2 (by rcases Nat.eq_zero_or_pos N with e | e; (rw [e, Nat.zero_mod] at hrp; omega); exact e); omega
   rw [hzN]
   refine ⟨i38, i44, rfl, IntN.more (K := (max K 1 + 1)) ?_ (by omega), IntN.more (K := L) ?_ (by omega)⟩
   ·rw [key.1]; exact g1
   ·rw [key.2]; exact g2
  ·replace hb20 : (decide ((0 : Int) < (x13.n : Int))) = false := hb20
   have qhb20 := of_decide_eq_false hb20
   refine zzq (zzn ?_)
   refine sq9 ?_
   refine zza 38 (.adr 2 0) ?_
   refine zzg 39 (.v (.bool i1.s)) ty4 zzj ?_
   refine zza 40 (.adr 3 0) ?_
   refine zzg 41 (.v (.bool false)) ty4 zzj ?_
   refine zza 42 (.v (.bool (!(i1.s == false)))) ?_
   refine zza 43 (.v x12.v) ?_
   refine zzf 44 180 [.bool (!(i1.s == false)), x12.v] ?_
   intro w51 u51 e51 d51
   have k56 := k_signed d51 (s := !(i1.s == false)) (h14.ext e51)
   with_reducible refine Post.mono k56 ?_
   rintro _ u54 g55 ⟨i52, rfl, h53⟩
   refine zza 45 (.v x13.v) ?_
   refine zzf 46 180 [.bool false, x13.v] ?_
   intro w57 u57 e57 d57
   have k62 := k_signed d57 (s := false) (h15.ext (e51.trans (g55.ext.trans e57)))
   with_reducible refine Post.mono k62 ?_
   rintro _ u60 g61 ⟨i58, rfl, h59⟩
   refine zzh ⟨24, i52.cs⟩ ty24 ?_
   refine zzh ⟨24, i58.cs⟩ ty24 ?_
   refine zza 6 (.v (.int .i64 0)) ?_
   refine zzb 47 [(4, .adr 4 0), (5, .adr 5 0), (6, .v (.int .i64 0))] [(4, ⟨24, i52.cs⟩), (5, ⟨24, i58.cs⟩)] ?_
   refine zzm (ret0 [i52.v, i58.v, .int .i64 0] ⟨zzp ty24 zzd, zzp ty24 zzd, zzo, trivial⟩ fun u63 e64 => ?_)
   have hrp := h15.pos
   have key := Nt.rdiv0 (s := i1.s) (N := N) hM (by rintro ⟨k1, k2⟩; omega)
   have g1 := (h53.ext (e57.trans (g61.ext.trans e64)))
   have g2 := (h59.ext e64)
   rw [hzN]
   refine ⟨i52, i58, rfl, IntN.more (K := K) ?_ (by omega), IntN.more (K := L) ?_ (by omega)⟩
   ·rw [key.1]; exact g1
   ·rw [key.2]; exact g2
 ·refine zyl 26 (x := .v (.bool i1.s)) (.v (.bool false)) (by rw [hs19]) ?_
  refine zzl 27 (uw 2 true false 26) ?_
  refine zzl 28 (uw 2 true false 26) ?_
  refine zzl 29 (uw 2 true false 26) ?_
  refine zza 30 (.v (.bool false)) ?_
  refine zzb 47 [(2, .adr 2 0), (3, .adr 3 0), (4, .adr 4 0), (5, .adr 5 0), (7, .v x12.v), (8, .v x13.v), (30, .v (.bool false))] [(2, ⟨24, i1.cs⟩), (3, ⟨24, [.bool false, y.v]⟩), (4, ⟨24, [.bool false, .slice none 0 0]⟩), (5, ⟨24, [.bool false, .slice none 0 0]⟩)] ?_
  refine zyn (by kernel_rfl) ?_
  refine zzq (zzn ?_)
  refine sq9 ?_
  refine zza 38 (.adr 2 0) ?_
  refine zzg 39 (.v (.bool i1.s)) ty4 zzj ?_
  refine zza 40 (.adr 3 0) ?_
  refine zzg 41 (.v (.bool false)) ty4 zzj ?_
  refine zza 42 (.v (.bool (!(i1.s == false)))) ?_
  refine zza 43 (.v x12.v) ?_
  refine zzf 44 180 [.bool (!(i1.s == false)), x12.v] ?_
  intro w65 u65 e65 d65
  have k70 := k_signed d65 (s := !(i1.s == false)) (h14.ext e65)
  with_reducible refine Post.mono k70 ?_
  rintro _ u68 g69 ⟨i66, rfl, h67⟩
  refine zza 45 (.v x13.v) ?_
  refine zzf 46 180 [.bool false, x13.v] ?_
  intro w71 u71 e71 d71
  have k76 := k_signed d71 (s := false) (h15.ext (e65.trans (g69.ext.trans e71)))
  with_reducible refine Post.mono k76 ?_
  rintro _ u74 g75 ⟨i72, rfl, h73⟩
  refine zzh ⟨24, i66.cs⟩ ty24 ?_
  refine zzh ⟨24, i72.cs⟩ ty24 ?_
  refine zza 6 (.v (.int .i64 0)) ?_
  refine zzb 47 [(4, .adr 4 0), (5, .adr 5 0), (6, .v (.int .i64 0))] [(4, ⟨24, i66.cs⟩), (5, ⟨24, i72.cs⟩)] ?_
  refine zzm (ret0 [i66.v, i72.v, .int .i64 0] ⟨zzp ty24 zzd, zzp ty24 zzd, zzo, trivial⟩ fun u77 e78 => ?_)
  have hrp := h15.pos
  have key := Nt.rdiv0 (s := i1.s) (N := N) hM (by rintro ⟨k1, k2⟩; rw [k1] at hs19; exact absurd hs19 (by decide))
  have g1 := (h67.ext (e71.trans (g75.ext.trans e78)))
  have g2 := (h73.ext e78)
  rw [hzN]
  refine ⟨i66, i72, rfl, IntN.more (K := K) ?_ (by omega), IntN.more (K := L) ?_ (by omega)⟩
  ·rw [key.1]; exact g1
  ·rw [key.2]; exact g2
theorem k_double {u w : World} {i : IL} {z : Int} {K s : Nat} (d : Dat u w) (hi : IntV u i z K) (hK : K ≤ 100000000) (hs : s ≤ 65536) : Calls Tryz.prog 177 #[i.v, .int .i64 (s : Int)] w (Post u w fun v u' => ∃ y : Sl, v = .agg #[.bool i.s, y.v] ∧ IntV u' ⟨i.s, y⟩ (z * ((2 ^ s : Nat) : Int)) (K + s / 32 + 1)) := by
 refine zzk (args := [i.v, .int .i64 (s : Int)]) Tryz.func177 rfl Tryz.ntmps177 (rs := [.cell 4 24]) Tryz.results177 (le_b rfl) (le_b rfl) d ?_
 refine sq9 ?_
 refine zzi 2 ⟨24, i.cs⟩ ?_
 refine zzi 4 ⟨24, [.bool false, .slice none 0 0]⟩ ?_
 refine zzb 12 [(1, .v (.int .i64 (s : Int))), (2, .adr 2 0), (4, .adr 4 0)] [(2, ⟨24, i.cs⟩), (4, ⟨24, [.bool false, .slice none 0 0]⟩)] ?_
 refine zzc ?_
 refine zzx [0, 1, 0, 4, 0, 28, 63, 127] [(0, []), (1, []), (2, []), (3, []), (4, []), (5, []), (6, []), (7, [])] (by kernel_rfl) (by kernel_rfl) ?_
 refine zza 5 (.adr 2 0) ?_
 refine zzg 6 (.v (.bool i.s)) ty4 zzj ?_
 refine zza 7 (.adr 2 1) ?_
 refine zzg 8 (.v i.m.v) ty22 zzj ?_
 refine zza 9 (.v (.int .i64 (s : Int))) ?_
 refine zzf 10 196 [i.m.v, .int .i64 (s : Int)] ?_
 intro w11 u11 e11 d11
 have k16 := k_natShift (s := s) d11 ((IntV.abs hi).ext e11) (by omega) (by omega)
 with_reducible refine Post.mono k16 ?_
 rintro _ u14 g15 ⟨x12, rfl, h13⟩
 refine zza 11 (.v (.agg #[.bool i.s, x12.v])) ?_
 refine zzh ⟨24, [.bool i.s, x12.v]⟩ ty24 ?_
 refine zzb 12 [(4, .adr 4 0)] [(4, ⟨24, [.bool i.s, x12.v]⟩)] ?_
 refine zzm (ret0 [.agg #[.bool i.s, .slice x12.a x12.n x12.c]] ⟨zzp ty24 zzd, trivial⟩ fun u17 e18 => ?_)
 obtain ⟨N9, hN9, hz9⟩ := hi
 refine ⟨x12, rfl, ?_⟩
 rw [hz9, ← Nt.sg_mulN]
 have h9 := IntV.same (s := i.s) (h13.ext e18).raw
 rw [hz9] at h9
 exact h9
theorem k_onGrid {u w : World} {i : IL} {y : Sl} {z : Int} {D K L s : Nat} (d : Dat u w) (hi : IntV u i z K) (hy : NatV u y D L) (hD : 0 < D) (hK : K ≤ 10000000) (hL : L ≤ 10000000) (hs : s ≤ 65536) : Calls Tryz.prog 176 #[i.v, y.v, .int .i64 (s : Int)] w (Post u w fun v u' => ∃ r : RL, v = r.v ∧ RatN u' r (mkRat (z / (D : Int)) (2 ^ s)) (K + s / 32 + 3)) := by
 have hp2 : 0 < 1 * 2 ^ s := by rw [Nat.one_mul]; exact Nat.pow_pos (by decide)
 refine zzk (args := [i.v, .slice y.a y.n y.c, .int .i64 (s : Int)]) Tryz.func176 rfl Tryz.ntmps176 (rs := [.cell 6 26]) Tryz.results176 (le_b rfl) (le_b rfl) d ?_
 refine sq9 ?_
 refine zzi 3 ⟨24, i.cs⟩ ?_
 refine zzi 6 ⟨26, [.bool false, .slice none 0 0, .slice none 0 0]⟩ ?_
 refine zzb 24 [(1, .v y.v), (2, .v (.int .i64 (s : Int))), (3, .adr 3 0), (6, .adr 6 0)] [(3, ⟨24, i.cs⟩), (6, ⟨26, [.bool false, .slice none 0 0, .slice none 0 0]⟩)] ?_
 refine zzc ?_
 refine zzx [0, 0, 2, 7, 15, 31, 31, 31, 0, 0, 831, 1919, 4095] [(0, []), (1, []), (8, []), (9, []), (2, []), (3, []), (4, []), (5, []), (6, []), (7, []), (10, []), (11, []), (12, [])] (by kernel_rfl) (by kernel_rfl) ?_
 refine zzg 11 (.v (i.v)) ty24 zzd ?_
 refine zza 12 (.v y.v) ?_
 refine zzi 7 ⟨24, [.bool false, .slice none 0 0]⟩ ?_
 refine zzi 8 ⟨24, [.bool false, .slice none 0 0]⟩ ?_
 refine zzf 13 148 [y.v] ?_
 intro w11 u11 e11 d11
 have k14 := k_natural (x := y) d11
 with_reducible refine Post.mono k14 ?_
 rintro _ u12 g13 rfl
 refine zzf 14 195 [i.v, .agg #[.bool false, y.v]] ?_
 intro w15 u15 e15 d15
 have k22 := k_intDivP d15 (hi.ext (e11.trans (g13.ext.trans e15))) (hy.ext (e11.trans (g13.ext.trans e15))) hD (by omega) (by omega)
 with_reducible refine Post.mono k22 ?_
 rintro _ u20 g21 ⟨i16, i18, rfl, h17, h19⟩
 refine zza 10 (.v (.tuple #[i16.v, i18.v, .int .i64 0])) ?_
 refine zza 15 (.v (i16.v)) ?_
 refine zza 16 (.v (i18.v)) ?_
 refine zza 17 (.v (.int .i64 0)) ?_
 refine zzh ⟨24, i16.cs⟩ ty24 ?_
 refine zzh ⟨24, i18.cs⟩ ty24 ?_
 refine zza 9 (.v (.int .i64 0)) ?_
 refine zzb 24 [(2, .v (.int .i64 (s : Int))), (6, .adr 6 0), (7, .adr 7 0)] [(6, ⟨26, [.bool false, .slice none 0 0, .slice none 0 0]⟩), (7, ⟨24, i16.cs⟩)] ?_
 refine zzc ?_
 refine zzx [0, 0, 0, 6, 15, 31, 63] [(0, []), (1, []), (2, []), (3, [19]), (4, []), (5, []), (6, [])] (by kernel_rfl) (by kernel_rfl) ?_
 refine zzg 18 (.v (i16.v)) ty24 zzd ?_
 refine sy_lit 19 ⟨105, [.int .u32 1]⟩ 1 ?_
 refine zza 20 (.v (.int .i64 (s : Int))) ?_
 refine zyk 21 196 [.slc 19 0 1 1, .v (.int .i64 (s : Int))] [19] (.inr rfl) (pub_mk (by repeat first | exact noAt_of | refine zyb ?_ | refine zyd ?_ | refine zyc ?_ | refine zzw ?_ | refine zzz ?_)) (k := ?_)
 intro B23 w23 u23 e23 d23 v23
 have h25 : u23.heap[B23 19]? = some (.cells #[.int .u32 1] 105 (0, 0)) := v23 19 (by simp) _ rfl
 obtain ⟨b24, hBb24⟩ : ∃ b, B23 19 = b := ⟨_, rfl⟩
 rw [hBb24] at h25
 show Calls _ _ #[.slice (some ⟨B23 19, 0, none⟩) 1 1, .int .i64 (s : Int)] _ _
 rw [hBb24]
 have k30 := k_natShift (s := s) d23 (one_data h25).raw (by omega) (by omega)
 with_reducible refine Post.mono k30 ?_
 rintro _ u28 g29 ⟨x26, rfl, h27⟩
 refine zza 22 (.v (.agg #[.bool i16.s, i16.m.v, x26.v])) ?_
 refine zzf 23 150 [.agg #[.bool i16.s, i16.m.v, x26.v]] ?_
 intro w31 u31 e31 d31
 have k36 := k_lowest d31 (h17.ext (e23.trans (g29.ext.trans e31))).raw (h27.ext e31).raw hp2 (by omega) (by omega)
 with_reducible refine Post.mono k36 ?_
 rintro _ u34 g35 ⟨r32, rfl, h33⟩
 refine zzh ⟨26, r32.cs⟩ ty26 ?_
 refine zzb 24 [(6, .adr 6 0)] [(6, ⟨26, r32.cs⟩)] ?_
 refine zzm (ret0 [r32.v] ⟨zzp ty26 zzd, trivial⟩ fun u37 e38 => ?_)
 refine ⟨r32, rfl, RatN.more (K := (max (K + 1) (1 + s / 32 + 1))) ?_ (by omega)⟩
 have h9 := (h33.ext e38)
 rw [Nat.one_mul] at h9
 exact h9
set_option maxHeartbeats 1000000 in
theorem k_downG {u w : World} {r : RL} {q : Rat} {K : Nat} {k : Nat} (hk : k ≤ 256) (d : Dat u w) (hr : RatV u r q K) (hK : K ≤ 1000000) : Calls Tryz.prog 133 #[r.v, .int .i64 (k : Int)] w (Post u w fun v u' => ∃ p : RL, v = .tuple #[p.v, .int .i64 0] ∧ RatN u' p (Nt.dnQ q k) (K + 20)) := by
 refine zzk (args := [r.v, .int .i64 (k : Int)]) Tryz.func133 rfl Tryz.ntmps133 (rs := [.cell 4 26, .tmp 5]) Tryz.results133 (le_b rfl) (le_b rfl) d ?_
 refine sq9 ?_
 refine zzi 2 ⟨26, r.cs⟩ ?_
 refine zzi 4 ⟨26, [.bool false, .slice none 0 0, .slice none 0 0]⟩ ?_
 refine zza 5 (.v (.int .i64 0)) ?_
 refine zzb 26 [(1, .v (.int .i64 (k : Int))), (2, .adr 2 0), (4, .adr 4 0)] [(2, ⟨26, r.cs⟩), (4, ⟨26, [.bool false, .slice none 0 0, .slice none 0 0]⟩)] ?_
 refine zzc ?_
 refine sq9 ?_
 refine zza 7 (.v (.int .i64 (k : Int))) ?_
 refine zza 8 (.v (.bool (decide ((k : Int) < 0)))) ?_
 refine zyl 9 (x := .v (.bool (decide ((k : Int) < 0)))) (.v (.bool false)) (by rw [show (decide ((k : Int) < 0)) = false from decide_eq_false (by omega)]) ?_
 refine zza 10 (.v (.int .i64 (k : Int))) ?_ (hw := w1 2 false 9)
 refine zza 11 (.v (.bool (decide ((256 : Int) < (k : Int))))) ?_ (hw := w1 2 false 9)
 refine zza 12 (.v (.bool (decide ((256 : Int) < (k : Int))))) ?_
 refine zzb 26 [(1, .v (.int .i64 (k : Int))), (2, .adr 2 0), (4, .adr 4 0), (12, .v (.bool (decide ((256 : Int) < (k : Int)))))] [(2, ⟨26, r.cs⟩), (4, ⟨26, [.bool false, .slice none 0 0, .slice none 0 0]⟩)] ?_
 refine zzs (b := decide ((256 : Int) < (k : Int))) (by kernel_rfl) (fun hb => ?_) (fun hb => ?_)
 ·exact absurd hb (by rw [show (decide ((256 : Int) < (k : Int))) = false from decide_eq_false (by omega)]; decide)
 ·clear hb
  refine zzq (zzn ?_)
  refine sq9 ?_
  refine zzg 14 (.v (r.v)) ty26 zzd ?_
  refine zzf 15 145 [r.v] ?_
  intro w12 u12 e12 d12
  have k16 := k_read d12 (hr.ext e12)
  with_reducible refine Post.mono k16 ?_
  rintro _ u14 g15 ⟨r13, wh13, rfl, z13, D13, hi13, hd13, hp13, hq13, hw13, hk13⟩
  refine zzi 6 ⟨116, [.bool false, .slice none 0 0, .slice none 0 0, .bool false]⟩ ?_
  refine zzh ⟨116, r13.cs ++ [.bool wh13]⟩ ty116 ?_
  refine zzb 26 [(1, .v (.int .i64 (k : Int))), (4, .adr 4 0), (6, .adr 6 0)] [(4, ⟨26, [.bool false, .slice none 0 0, .slice none 0 0]⟩), (6, ⟨116, r13.cs ++ [.bool wh13]⟩)] ?_
  refine zzc ?_
  refine zzx [0, 1, 3, 0, 15, 0, 32, 96, 0, 511, 1023, 2047] [(0, []), (1, []), (2, []), (3, []), (5, []), (6, []), (7, []), (8, []), (4, []), (9, []), (10, []), (11, [])] (by kernel_rfl) (by kernel_rfl) ?_
  refine zza 16 (.adr 6 0) ?_
  refine zza 17 (.adr 6 0) ?_
  refine zzg 18 (.v (.agg #[.bool r13.s, r13.m.v])) ty24 zzd ?_
  refine zza 19 (.v (.int .i64 (k : Int))) ?_
  refine zza 21 (.adr 6 0) ?_
  refine zza 22 (.adr 6 2) ?_
  refine zzg 23 (.v r13.d.v) ty22 zzj ?_
  refine zza 24 (.v (.int .i64 (k : Int))) ?_
  refine zzf 20 177 [.agg #[.bool r13.s, r13.m.v], .int .i64 (k : Int)] ?_
  intro w17 u17 e17 d17
  have k22 := k_double (s := k) d17 (hi13.ext e17) (by omega) (by omega)
  with_reducible refine Post.mono k22 ?_
  rintro _ u20 g21 ⟨y18, rfl, h19⟩
  refine zzf 25 176 [.agg #[.bool r13.s, y18.v], r13.d.v, .int .i64 (k : Int)] ?_
  intro w23 u23 e23 d23
  have k28 := k_onGrid (s := k) d23 (h19.ext e23) (hd13.ext (e17.trans (g21.ext.trans e23))) hp13 (by omega) (by omega) (by omega)
  with_reducible refine Post.mono k28 ?_
  rintro _ u26 g27 ⟨r24, rfl, h25⟩
  refine zzh ⟨26, r24.cs⟩ ty26 ?_
  refine zza 5 (.v (.int .i64 0)) ?_
  refine zzb 26 [(4, .adr 4 0), (5, .v (.int .i64 0))] [(4, ⟨26, r24.cs⟩)] ?_
  refine zzm (ret0 [r24.v, .int .i64 0] ⟨zzp ty26 zzd, zzo, trivial⟩ fun u29 e30 => ?_)
  refine ⟨r24, rfl, RatN.more (K := ((K + k / 32 + 1) + k / 32 + 3)) ?_ (by omega)⟩
  rw [hq13, Nt.dn_mk hp13]
  exact (h25.ext e30)
set_option maxHeartbeats 1000000 in
theorem k_upG {u w : World} {r : RL} {q : Rat} {K : Nat} {k : Nat} (hk : k ≤ 256) (d : Dat u w) (hr : RatV u r q K) (hK : K ≤ 1000000) : Calls Tryz.prog 134 #[r.v, .int .i64 (k : Int)] w (Post u w fun v u' => ∃ p : RL, v = .tuple #[p.v, .int .i64 0] ∧ RatN u' p (-Nt.dnQ (-q) k) (K + 20)) := by
 refine zzk (args := [r.v, .int .i64 (k : Int)]) Tryz.func134 rfl Tryz.ntmps134 (rs := [.cell 4 26, .tmp 5]) Tryz.results134 (le_b rfl) (le_b rfl) d ?_
 refine sq9 ?_
 refine zzi 2 ⟨26, r.cs⟩ ?_
 refine zzi 4 ⟨26, [.bool false, .slice none 0 0, .slice none 0 0]⟩ ?_
 refine zza 5 (.v (.int .i64 0)) ?_
 refine zzb 21 [(1, .v (.int .i64 (k : Int))), (2, .adr 2 0), (4, .adr 4 0)] [(2, ⟨26, r.cs⟩), (4, ⟨26, [.bool false, .slice none 0 0, .slice none 0 0]⟩)] ?_
 refine sq9 ?_
 refine zzg 9 (.v (r.v)) ty26 zzd ?_
 refine zzf 10 165 [r.v] ?_
 intro w11 u11 e11 d11
 have k14 := k_flip (r := r) d11
 with_reducible refine Post.mono k14 ?_
 rintro _ u12 g13 rfl
 refine zza 11 (.v (.int .i64 (k : Int))) ?_
 refine zzf 12 133 [.agg #[.bool (!r.s), r.m.v, r.d.v], .int .i64 (k : Int)] ?_
 intro w15 u15 e15 d15
 have k20 := k_downG (k := k) (by omega) d15 ((flip_rat (hr.ext (e11.trans g13.ext))).ext e15) (by omega)
 with_reducible refine Post.mono k20 ?_
 rintro _ u18 g19 ⟨r16, rfl, h17⟩
 refine zza 8 (.v (.tuple #[r16.v, .int .i64 0])) ?_
 refine zza 13 (.v (r16.v)) ?_
 refine zza 14 (.v (.int .i64 0)) ?_
 refine zzi 6 ⟨26, [.bool false, .slice none 0 0, .slice none 0 0]⟩ ?_
 refine zzh ⟨26, r16.cs⟩ ty26 ?_
 refine zza 7 (.v (.int .i64 0)) ?_
 refine zzb 21 [(4, .adr 4 0), (6, .adr 6 0), (7, .v (.int .i64 0))] [(4, ⟨26, [.bool false, .slice none 0 0, .slice none 0 0]⟩), (6, ⟨26, r16.cs⟩)] ?_
 refine zzc ?_
 refine sq9 ?_
 refine zza 15 (.v (.int .i64 0)) ?_
 refine zza 16 (.v (.bool false)) ?_
 refine zzb 21 [(4, .adr 4 0), (6, .adr 6 0), (7, .v (.int .i64 0)), (16, .v (.bool false))] [(4, ⟨26, [.bool false, .slice none 0 0, .slice none 0 0]⟩), (6, ⟨26, r16.cs⟩)] ?_
 refine zyn (by kernel_rfl) ?_
 refine zzq (zzn ?_)
 refine sq9 ?_
 refine zzg 19 (.v (r16.v)) ty26 zzd ?_
 refine zzf 20 144 [r16.v] ?_
 intro w21 u21 e21 d21
 have k26 := k_ratNeg d21 (h17.ext e21).raw (by omega)
 with_reducible refine Post.mono k26 ?_
 rintro _ u24 g25 ⟨r22, rfl, h23⟩
 refine zzh ⟨26, r22.cs⟩ ty26 ?_
 refine zza 5 (.v (.int .i64 0)) ?_
 refine zzb 21 [(4, .adr 4 0), (5, .v (.int .i64 0))] [(4, ⟨26, r22.cs⟩)] ?_
 refine zzm (ret0 [r22.v, .int .i64 0] ⟨zzp ty26 zzd, zzo, trivial⟩ fun u27 e28 => ?_)
 refine ⟨r22, rfl, RatN.more (K := (K + 20)) ?_ (by omega)⟩
 exact (h23.ext e28)
end Go.Proofs.YtnedhbidmfoegaaGreat

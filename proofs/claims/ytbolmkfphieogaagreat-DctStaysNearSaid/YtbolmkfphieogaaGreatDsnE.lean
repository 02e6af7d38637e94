/- Parts of the proof: contracts of functions, each walked once, and plain laws. -/
import Derived.Test.YtbolmkfphieogaaGreatDsnD
import Derived.IntWalk
import Derived.ScopeJumps
namespace Go.Proofs.YtbolmkfphieogaaGreat
open Go.RowKit
set_option linter.unusedVariables false
theorem k_formed {u w : World} {t f cf sh n : Int} (d : Dat u w) : Calls Tryz.prog 132 #[.agg #[.int .i64 t, .int .i64 f, .int .i64 cf, .int .i64 sh], .int .i64 n] w (Post u w fun v _ => v = .bool (decide (Nt.shOK n [t, f, cf, sh]))) := by
 refine zzl (args := [.agg #[.int .i64 t, .int .i64 f, .int .i64 cf, .int .i64 sh], .int .i64 n]) Tryz.func132 rfl Tryz.ntmps132 (rs := [.tmp 4]) Tryz.results132 (le_b rfl) (le_b rfl) d ?_
 refine sq9 (zzj 2 ⟨90, [.int .i64 t, .int .i64 f, .int .i64 cf, .int .i64 sh]⟩ (zza 4 (zB false) (zzb (zzd (sq9 (zza 5 (.adr 2 0) (zzh 6 (zI t) ty3 zzk (zza 7 (zB (decide (t < 0))) ?_))))))))
 rcases Bool.eq_false_or_eq_true (decide (t < 0)) with hs11 | hs11
 ·refine zyp 8 (x := zB (decide (t < 0))) (zB true) (by rw [hs11]) ?_
  have qhs11 := of_decide_eq_true hs11
  refine zzm 9 (uw 3 false true 8) (zzm 10 (uw 3 false true 8) (zzm 11 (uw 3 false true 8) (zzm 12 (uw 3 false true 8) (zza 13 (zB true) (zza 14 (zB true) (zzm 15 (uw 9 false true 14) (zzm 16 (uw 9 false true 14) (zzm 17 (uw 9 false true 14) (zza 18 (zB true) (zza 19 (zB true) (zzm 20 (uw 14 false true 19) ?_)))))))))))
  refine zzm 21 (uw 14 false true 19) (zzm 22 (uw 14 false true 19) (zzm 23 (uw 14 false true 19) (zza 24 (zB true) (zzb (zyq xj (sq9 (zza 4 (zB false) (zzb (zzn (zzv (ret0 [.bool false] ⟨zzp, trivial⟩ fun u12 e13 => ?_)))))))))))
  show Value.bool _ = Value.bool _
  congr 1
  have h9hs11 := hs11
  simp at h9hs11
  rw [Bool.eq_iff_iff]
  simp [Nt.shOK]
  omega
 ·refine zyp 8 (x := zB (decide (t < 0))) (zB false) (by rw [hs11]) ?_
  have qhs11 := of_decide_eq_false hs11
  refine zza 9 (.adr 2 0) ?_ (hw := w1 3 false 8)
  refine zzh 10 (zI t) ty3 zzk ?_ (hw := w1 3 false 8)
  refine zza 11 (zI n) ?_ (hw := w1 3 false 8)
  refine zza 12 (zB (decide (n ≤ t))) ?_ (hw := w1 3 false 8)
  refine zza 13 (zB (decide (n ≤ t))) ?_
  rcases Bool.eq_false_or_eq_true (decide (n ≤ t)) with hs14 | hs14
  ·refine zyp 14 (x := zB (decide (n ≤ t))) (zB true) (by rw [hs14]) ?_
   have qhs14 := of_decide_eq_true hs14
   refine zzm 15 (uw 9 false true 14) (zzm 16 (uw 9 false true 14) (zzm 17 (uw 9 false true 14) (zza 18 (zB true) (zza 19 (zB true) (zzm 20 (uw 14 false true 19) (zzm 21 (uw 14 false true 19) (zzm 22 (uw 14 false true 19) (zzm 23 (uw 14 false true 19) (zza 24 (zB true) (zzb (zyq xj ?_)))))))))))
   refine sq9 (zza 4 (zB false) (zzb (zzn (zzv (ret0 [.bool false] ⟨zzp, trivial⟩ fun u15 e16 => ?_)))))
   show Value.bool _ = Value.bool _
   congr 1
   have h9hs11 := hs11
   simp at h9hs11
   have h9hs14 := hs14
   simp at h9hs14
   rw [Bool.eq_iff_iff]
   simp [Nt.shOK]
   omega
  ·refine zyp 14 (x := zB (decide (n ≤ t))) (zB false) (by rw [hs14]) ?_
   have qhs14 := of_decide_eq_false hs14
   refine zza 15 (.adr 2 1) ?_ (hw := w1 9 false 14)
   refine zzh 16 (zI f) ty3 zzk ?_ (hw := w1 9 false 14)
   refine zza 17 (zB (decide (f < 0))) ?_ (hw := w1 9 false 14)
   refine zza 18 (zB (decide (f < 0))) ?_
   rcases Bool.eq_false_or_eq_true (decide (f < 0)) with hs17 | hs17
   ·refine zyp 19 (x := zB (decide (f < 0))) (zB true) (by rw [hs17]) ?_
    have qhs17 := of_decide_eq_true hs17
    refine zzm 20 (uw 14 false true 19) (zzm 21 (uw 14 false true 19) (zzm 22 (uw 14 false true 19) (zzm 23 (uw 14 false true 19) (zza 24 (zB true) (zzb (zyq xj (sq9 (zza 4 (zB false) (zzb (zzn (zzv (ret0 [.bool false] ⟨zzp, trivial⟩ fun u18 e19 => ?_))))))))))))
    show Value.bool _ = Value.bool _
    congr 1
    have h9hs11 := hs11
    simp at h9hs11
    have h9hs14 := hs14
    simp at h9hs14
    have h9hs17 := hs17
    simp at h9hs17
    rw [Bool.eq_iff_iff]
    simp [Nt.shOK]
    omega
   ·refine zyp 19 (x := zB (decide (f < 0))) (zB false) (by rw [hs17]) ?_
    have qhs17 := of_decide_eq_false hs17
    refine zza 20 (.adr 2 1) ?_ (hw := w1 14 false 19)
    refine zzh 21 (zI f) ty3 zzk ?_ (hw := w1 14 false 19)
    refine zza 22 (zI n) ?_ (hw := w1 14 false 19)
    refine zza 23 (zB (decide (n ≤ f))) ?_ (hw := w1 14 false 19)
    refine zza 24 (zB (decide (n ≤ f))) (zzb (zzt (b := decide (n ≤ f)) xj (fun hb20 => ?_) (fun hb20 => ?_)))
    ·replace hb20 : (decide (n ≤ f)) = true := hb20
     have qhb20 := of_decide_eq_true hb20
     refine sq9 (zza 4 (zB false) (zzb (zzn (zzv (ret0 [.bool false] ⟨zzp, trivial⟩ fun u21 e22 => ?_)))))
     show Value.bool _ = Value.bool _
     congr 1
     have h9hs11 := hs11
     simp at h9hs11
     have h9hs14 := hs14
     simp at h9hs14
     have h9hs17 := hs17
     simp at h9hs17
     have h9hb20 := hb20
     simp at h9hb20
     rw [Bool.eq_iff_iff]
     simp [Nt.shOK]
     omega
    ·replace hb20 : (decide (n ≤ f)) = false := hb20
     have qhb20 := of_decide_eq_false hb20
     refine zzr (zzo ?_)
     refine zzd (sq9 (zza 25 (.adr 2 3) (zzh 26 (zI sh) ty3 zzk (zza 27 (zB (decide (sh < (-2)))) ?_))))
     rcases Bool.eq_false_or_eq_true (decide (sh < (-2))) with hs23 | hs23
     ·refine zyp 28 (x := zB (decide (sh < (-2)))) (zB true) (by rw [hs23]) ?_
      have qhs23 := of_decide_eq_true hs23
      refine zzm 29 (uw 3 false true 28) (zzm 30 (uw 3 false true 28) (zzm 31 (uw 3 false true 28) (zza 32 (zB true) (zzb (zyq xj (sq9 (zza 4 (zB false) (zzc 56 [(4, zB false)] [] (zzn (zzv (ret0 [.bool false] ⟨zzp, trivial⟩ fun u24 e25 => ?_)))))))))))
      show Value.bool _ = Value.bool _
      congr 1
      have h9hs11 := hs11
      simp at h9hs11
      have h9hs14 := hs14
      simp at h9hs14
      have h9hs17 := hs17
      simp at h9hs17
      have h9hb20 := hb20
      simp at h9hb20
      have h9hs23 := hs23
      simp at h9hs23
      rw [Bool.eq_iff_iff]
      simp [Nt.shOK]
      omega
     ·refine zyp 28 (x := zB (decide (sh < (-2)))) (zB false) (by rw [hs23]) ?_
      have qhs23 := of_decide_eq_false hs23
      refine zza 29 (.adr 2 3) ?_ (hw := w1 3 false 28)
      refine zzh 30 (zI sh) ty3 zzk ?_ (hw := w1 3 false 28)
      refine zza 31 (zB (decide ((20 : Int) < sh))) ?_ (hw := w1 3 false 28)
      refine zza 32 (zB (decide ((20 : Int) < sh))) (zzb (zzt (b := decide ((20 : Int) < sh)) xj (fun hb26 => ?_) (fun hb26 => ?_)))
      ·replace hb26 : (decide ((20 : Int) < sh)) = true := hb26
       have qhb26 := of_decide_eq_true hb26
       refine sq9 (zza 4 (zB false) (zzc 56 [(4, zB false)] [] (zzn (zzv (ret0 [.bool false] ⟨zzp, trivial⟩ fun u27 e28 => ?_)))))
       show Value.bool _ = Value.bool _
       congr 1
       have h9hs11 := hs11
       simp at h9hs11
       have h9hs14 := hs14
       simp at h9hs14
       have h9hs17 := hs17
       simp at h9hs17
       have h9hb20 := hb20
       simp at h9hb20
       have h9hs23 := hs23
       simp at h9hs23
       have h9hb26 := hb26
       simp at h9hb26
       rw [Bool.eq_iff_iff]
       simp [Nt.shOK]
       omega
      ·replace hb26 : (decide ((20 : Int) < sh)) = false := hb26
       have qhb26 := of_decide_eq_false hb26
       refine zzr (zzo ?_)
       refine zzd (sq9 (zza 33 (.adr 2 0) (zzh 34 (zI t) ty3 zzk (zza 35 (.adr 2 1) (zzh 36 (zI f) ty3 zzk (zza 37 (zB (t == f)) (zza 38 (.adr 2 3) (zzh 39 (zI sh) ty3 zzk (zza 40 (zB (sh == (-2))) (zza 41 (zB (!((t == f) == (sh == (-2))))) (zzc 56 [(2, .adr 2 0), (41, zB (!((t == f) == (sh == (-2)))))] [(2, ⟨90, [.int .i64 t, .int .i64 f, .int .i64 cf, .int .i64 sh]⟩)] ?_)))))))))))
       refine zzt (b := !((t == f) == (sh == (-2)))) xj (fun hb29 => ?_) (fun hb29 => ?_)
       ·replace hb29 : (!((t == f) == (sh == (-2)))) = true := hb29
        refine sq9 (zza 4 (zB false) (zzb (zzn (zzv (ret0 [.bool false] ⟨zzp, trivial⟩ fun u30 e31 => ?_)))))
        show Value.bool _ = Value.bool _
        congr 1
        have h9hs11 := hs11
        simp at h9hs11
        have h9hs14 := hs14
        simp at h9hs14
        have h9hs17 := hs17
        simp at h9hs17
        have h9hb20 := hb20
        simp at h9hb20
        have h9hs23 := hs23
        simp at h9hs23
        have h9hb26 := hb26
        simp at h9hb26
        have h9hb29 := hb29
        rw [Nt.ne_pair] at h9hb29
        replace h9hb29 := of_decide_eq_true h9hb29
        rw [Bool.eq_iff_iff]
        simp [Nt.shOK]
        omega
       ·replace hb29 : (!((t == f) == (sh == (-2)))) = false := hb29
        refine zzr (zzo ?_)
        refine zzd (sq9 (zza 42 (.adr 2 3) (zzh 43 (zI sh) ty3 zzk (zza 44 (zB (decide (sh < 0))) (zzb (zzt (b := decide (sh < 0)) xj (fun hb32 => ?_) (fun hb32 => ?_)))))))
        ·replace hb32 : (decide (sh < 0)) = true := hb32
         have qhb32 := of_decide_eq_true hb32
         refine sq9 (zza 45 (.adr 2 2) (zzh 46 (zI cf) ty3 zzk (zza 47 (zB (cf == 0)) (zza 4 (zB (cf == 0)) (zzb (zzn (zzv (ret0 [.bool (cf == 0)] ⟨zzp, trivial⟩ fun u33 e34 => ?_))))))))
         show Value.bool _ = Value.bool _
         congr 1
         have h9hs11 := hs11
         simp at h9hs11
         have h9hs14 := hs14
         simp at h9hs14
         have h9hs17 := hs17
         simp at h9hs17
         have h9hb20 := hb20
         simp at h9hb20
         have h9hs23 := hs23
         simp at h9hs23
         have h9hb26 := hb26
         simp at h9hb26
         have h9hb29 := hb29
         rw [Nt.ne_pair] at h9hb29
         replace h9hb29 := of_decide_eq_false h9hb29
         have h9hb32 := hb32
         simp at h9hb32
         rw [Bool.eq_iff_iff]
         simp [Nt.shOK]
         omega
        ·replace hb32 : (decide (sh < 0)) = false := hb32
         have qhb32 := of_decide_eq_false hb32
         refine zzr (zzo ?_)
         refine sq9 (zza 48 (.adr 2 2) (zzh 49 (zI cf) ty3 zzk (zza 50 (zB (decide (((-2097152) : Int) ≤ cf))) ?_)))
         rcases Bool.eq_false_or_eq_true (decide (((-2097152) : Int) ≤ cf)) with hs35 | hs35
         ·refine zyp 51 (x := zB (decide (((-2097152) : Int) ≤ cf))) (zB true) (by rw [hs35]) ?_
          have qhs35 := of_decide_eq_true hs35
          refine zza 52 (.adr 2 2) ?_ (hw := w1 3 true 51)
          refine zzh 53 (zI cf) ty3 zzk ?_ (hw := w1 3 true 51)
          refine zza 54 (zB (decide (cf ≤ 2097152))) ?_ (hw := w1 3 true 51)
          refine zza 55 (zB (decide (cf ≤ 2097152))) (zza 4 (zB (decide (cf ≤ 2097152))) (zzb (zzn (ret0 [.bool (decide (cf ≤ 2097152))] ⟨zzp, trivial⟩ fun u36 e37 => ?_))))
          show Value.bool _ = Value.bool _
          congr 1
          have h9hs11 := hs11
          simp at h9hs11
          have h9hs14 := hs14
          simp at h9hs14
          have h9hs17 := hs17
          simp at h9hs17
          have h9hb20 := hb20
          simp at h9hb20
          have h9hs23 := hs23
          simp at h9hs23
          have h9hb26 := hb26
          simp at h9hb26
          have h9hb29 := hb29
          rw [Nt.ne_pair] at h9hb29
          replace h9hb29 := of_decide_eq_false h9hb29
          have h9hb32 := hb32
          simp at h9hb32
          have h9hs35 := hs35
          simp at h9hs35
          rw [Bool.eq_iff_iff]
          simp [Nt.shOK]
          omega
         ·refine zyp 51 (x := zB (decide (((-2097152) : Int) ≤ cf))) (zB false) (by rw [hs35]) ?_
          have qhs35 := of_decide_eq_false hs35
          refine zzm 52 (uw 3 true false 51) (zzm 53 (uw 3 true false 51) (zzm 54 (uw 3 true false 51) (zza 55 (zB false) (zza 4 (zB false) (zzb (zzn (ret0 [.bool false] ⟨zzp, trivial⟩ fun u38 e39 => ?_)))))))
          show Value.bool _ = Value.bool _
          congr 1
          have h9hs11 := hs11
          simp at h9hs11
          have h9hs14 := hs14
          simp at h9hs14
          have h9hs17 := hs17
          simp at h9hs17
          have h9hb20 := hb20
          simp at h9hb20
          have h9hs23 := hs23
          simp at h9hs23
          have h9hb26 := hb26
          simp at h9hb26
          have h9hb29 := hb29
          rw [Nt.ne_pair] at h9hb29
          replace h9hb29 := of_decide_eq_false h9hb29
          have h9hb32 := hb32
          simp at h9hb32
          have h9hs35 := hs35
          simp at h9hs35
          rw [Bool.eq_iff_iff]
          simp [Nt.shOK]
          omega
set_option maxHeartbeats 1000000 in
theorem k_dvalid {u w : World} {x : Sl} {S : List (List Int)} {n : Int} (d : Dat u w) (hx : IrV 4 u x S) (h9 : S.length ≤ 1000000) : Calls Tryz.prog 64 #[x.v, .int .i64 n] w (Post u w fun v _ => v = .bool (decide (Nt.shV n S))) := by
 have hlx : x.n = S.length := hx.len
 refine zzl (args := [.slice x.a x.n x.c, .int .i64 n]) Tryz.func64 rfl Tryz.ntmps64 (rs := [.tmp 4]) Tryz.results64 (le_b rfl) (le_b rfl) d ?_
 refine sq9 (zza 4 (zB false) (zzb (zzd (sq9 (zza 7 (zI n) (zza 8 (zB (decide (n < 1))) ?_))))))
 rcases Bool.eq_false_or_eq_true (decide (n < 1)) with hs11 | hs11
 ·refine zyp 9 (x := zB (decide (n < 1))) (zB true) (by rw [hs11]) ?_
  have qhs11 := of_decide_eq_true hs11
  refine zzm 10 (uw 2 false true 9) (zzm 11 (uw 2 false true 9) (zza 12 (zB true) (zza 13 (zB true) (zzm 14 (uw 6 false true 13) (zzm 15 (uw 6 false true 13) (zzm 16 (uw 6 false true 13) (zza 17 (zB true) (zzb (zyq xj (sq9 (zza 4 (zB false) ?_)))))))))))
  refine zzb (zzn (zzv (ret0 [.bool false] ⟨zzp, trivial⟩ fun u12 e13 => ?_)))
  show Value.bool _ = Value.bool _
  congr 1
  symm
  have h9hs11 := hs11
  simp at h9hs11
  exact decide_eq_false (fun h9 => by have k1 := h9.1; have k2 := h9.2.1; have k3 := h9.2.2.1; omega)
 ·refine zyp 9 (x := zB (decide (n < 1))) (zB false) (by rw [hs11]) ?_
  have qhs11 := of_decide_eq_false hs11
  refine zza 10 (zI n) ?_ (hw := w1 2 false 9)
  refine zza 11 (zB (decide ((64 : Int) < n))) ?_ (hw := w1 2 false 9)
  refine zza 12 (zB (decide ((64 : Int) < n))) ?_
  rcases Bool.eq_false_or_eq_true (decide ((64 : Int) < n)) with hs14 | hs14
  ·refine zyp 13 (x := zB (decide ((64 : Int) < n))) (zB true) (by rw [hs14]) ?_
   have qhs14 := of_decide_eq_true hs14
   refine zzm 14 (uw 6 false true 13) (zzm 15 (uw 6 false true 13) (zzm 16 (uw 6 false true 13) (zza 17 (zB true) (zzb (zyq xj (sq9 (zza 4 (zB false) (zzb (zzn (zzv (ret0 [.bool false] ⟨zzp, trivial⟩ fun u15 e16 => ?_)))))))))))
   show Value.bool _ = Value.bool _
   congr 1
   symm
   have h9hs11 := hs11
   simp at h9hs11
   have h9hs14 := hs14
   simp at h9hs14
   exact decide_eq_false (fun h9 => by have k1 := h9.1; have k2 := h9.2.1; have k3 := h9.2.2.1; omega)
  ·refine zyp 13 (x := zB (decide ((64 : Int) < n))) (zB false) (by rw [hs14]) ?_
   have qhs14 := of_decide_eq_false hs14
   refine zza 14 (.v x.v) ?_ (hw := w1 6 false 13)
   refine zza 15 (zI x.n) ?_ (hw := w1 6 false 13)
   refine zza 16 (zB (decide ((64 : Int) < (x.n : Int)))) ?_ (hw := w1 6 false 13)
   refine zza 17 (zB (decide ((64 : Int) < (x.n : Int)))) (zzb (zzt (b := decide ((64 : Int) < (x.n : Int))) xj (fun hb17 => ?_) (fun hb17 => ?_)))
   ·replace hb17 : (decide ((64 : Int) < (x.n : Int))) = true := hb17
    have qhb17 := of_decide_eq_true hb17
    refine sq9 (zza 4 (zB false) (zzb (zzn (zzv (ret0 [.bool false] ⟨zzp, trivial⟩ fun u18 e19 => ?_)))))
    show Value.bool _ = Value.bool _
    congr 1
    symm
    have h9hs11 := hs11
    simp at h9hs11
    have h9hs14 := hs14
    simp at h9hs14
    have h9hb17 := hb17
    simp at h9hb17
    exact decide_eq_false (fun h9 => by have k1 := h9.1; have k2 := h9.2.1; have k3 := h9.2.2.1; omega)
   ·replace hb17 : (decide ((64 : Int) < (x.n : Int))) = false := hb17
    have qhb17 := of_decide_eq_false hb17
    refine zzr (zzo ?_)
    refine zzd (sq9 (zza 18 (.v x.v) (zza 19 (zI x.n) (zza 20 (zI 0) (zzb (zzs (zym (I := fun m20 S' u' => ∃ (i : Nat), (m20 = S.length - i) ∧ (i ≤ S.length) ∧ (∀ j, j < i → Nt.shOK n (S.getD j [])) ∧ (S' = St.of 29 [(1, zI n), (18, .v (.slice x.a x.n x.c)), (19, zI x.n), (20, zI i)] []) ∧ (Ext u u')) (fun m S u1 u2 e h => by obtain ⟨i, hm, p0, p1, hS, hE⟩ := h; exact ⟨i, hm, p0, p1, hS, hE.trans e⟩) _ yw ⟨0, rfl, by omega, (fun j hj => absurd hj xq), rfl, (Ext.refl _)⟩ ?_)))))))
    rintro m20 _ u20 ⟨i, hm20, hi, hA, rfl, e20⟩
    refine sq9 (zza 21 (zB (decide ((i : Int) < (x.n : Int)))) (zzb (zzd (zzt (b := decide ((i : Int) < (x.n : Int))) xj (fun hb21 => ?_) (fun hb21 => ?_)))))
    ·replace hb21 : (decide ((i : Int) < (x.n : Int))) = true := hb21
     have qhb21 := of_decide_eq_true hb21
     refine zzr (zzo ?_)
     refine zzd (zzs (sq9 ?_))
     have hl22 := ((hx.ext e20)).len
     obtain ⟨b22, o22, hA22, hc22⟩ := ir_at4 (hx.ext e20) (i := i) xq
     refine zzz 22 (o22 + i * 4) (n := x.n) (off := o22) (sz := 4) (i := (i : Int)) xq hA22 xq xq sl64 (zyl 23 [.int .i64 (gi S i 0), .int .i64 (gi S i 1), .int .i64 (gi S i 2), .int .i64 (gi S i 3)] hc22 ty90 (zzj 6 ⟨90, [.int .i64 0, .int .i64 0, .int .i64 0, .int .i64 0]⟩ (zzi ⟨90, [.int .i64 (gi S i 0), .int .i64 (gi S i 1), .int .i64 (gi S i 2), .int .i64 (gi S i 3)]⟩ ty90 ?_)))
     refine zzb (sq9 (zzh 24 (.v (.agg #[.int .i64 (gi S i 0), .int .i64 (gi S i 1), .int .i64 (gi S i 2), .int .i64 (gi S i 3)])) ty90 zze (zza 25 (zI n) (zzg 26 132 [.agg #[.int .i64 (gi S i 0), .int .i64 (gi S i 1), .int .i64 (gi S i 2), .int .i64 (gi S i 3)], .int .i64 n] ?_))))
     intro w23 u23 e23 d23
     have k26 := k_formed (t := gi S i 0) (f := gi S i 1) (cf := gi S i 2) (sh := gi S i 3) (n := n) d23
     with_reducible refine zPm k26 ?_
     rintro _ u24 g25 rfl
     refine zza 27 (zB (!(decide (Nt.shOK n [gi S i 0, gi S i 1, gi S i 2, gi S i 3])))) (zzb (zzt (b := !(decide (Nt.shOK n [gi S i 0, gi S i 1, gi S i 2, gi S i 3]))) xj (fun hb27 => ?_) (fun hb27 => ?_)))
     ·replace hb27 : (!(decide (Nt.shOK n [gi S i 0, gi S i 1, gi S i 2, gi S i 3]))) = true := hb27
      refine sq9 (zza 4 (zB false) (zzb (zzn (zyt (zzv (zys (zyt (zzv (ret0 [.bool false] ⟨zzp, trivial⟩ fun u28 e29 => ?_)))))))))
      show Value.bool _ = Value.bool _
      congr 1
      symm
      exact decide_eq_false (fun h9 => by have h8 := hb27; have h7 := h9.2.2.2 i xq; rw [row4 hx.rows xq] at h7; simp [h7] at h8)
     ·replace hb27 : (!(decide (Nt.shOK n [gi S i 0, gi S i 1, gi S i 2, gi S i 3]))) = false := hb27
      have qhb27 : Nt.shOK n (S.getD i []) := by rw [row4 hx.rows xq]; have h9 := hb27; simpa using h9
      refine zzr (zzo ?_)
      refine zzf (zyp 28 (x := zI (IntKind.i64.wrap ((i : Int) + 1))) (zI (i + 1 : Nat)) (eqI xz) (zza 20 (zI (i + 1 : Nat)) (zzw ?_)))
      refine ⟨_, ?_, _, by exact zzu _ _ _, i + 1, rfl, by omega, (fun j hj => by rcases Nat.lt_or_ge j i with h9 | h9; exact hA j h9; (obtain rfl : j = i := by omega); exact qhb27), rfl, (e20.trans (e23.trans g25.ext))⟩
      omega
    ·replace hb21 : (decide ((i : Int) < (x.n : Int))) = false := hb21
     have qhb21 := of_decide_eq_false hb21
     refine zyb (zzo (sq9 (zza 4 (zB true) (zzb (zzn (ret0 [.bool true] ⟨zzp, trivial⟩ fun u30 e31 => ?_))))))
     show Value.bool _ = Value.bool _
     congr 1
     symm
     exact decide_eq_true ⟨by omega, by omega, by omega, fun j hj => hA j xq⟩
set_option maxHeartbeats 1000000 in
theorem k_dcheck {u w : World} {x y : Sl} {S : List (List Int)} {l : List Int} (d : Dat u w) (hx : IrV 4 u x S) (h9 : S.length ≤ 1000000) (hy : SlR .i64 u y.a y.n y.c l) (hb : ∀ z ∈ l, -9223372036854775808 ≤ z ∧ z ≤ 9223372036854775807) (h8 : l.length ≤ 1000000) : Calls Tryz.prog 114 #[x.v, y.v] w (Post u w fun v _ => v = .int .i64 (Nt.chkE S l)) := by
 have hlx : x.n = S.length := hx.len
 have hly : l.length = y.n := hy.1
 refine zzl (args := [.slice x.a x.n x.c, .slice y.a y.n y.c]) Tryz.func114 rfl Tryz.ntmps114 (rs := [.tmp 4]) Tryz.results114 (le_b rfl) (le_b rfl) d ?_
 refine sq9 (zza 4 (zI 0) (zzb (zzd (sq9 (zza 7 (.v x.v) (zza 8 (.v y.v) (zza 9 (zI y.n) (zzg 10 64 [x.v, .int .i64 y.n] ?_))))))))
 intro w11 u11 e11 d11
 have k14 := k_dvalid (x := x) (n := (y.n : Int)) d11 (hx.ext e11) xq
 with_reducible refine zPm k14 ?_
 rintro _ u12 g13 rfl
 refine zza 11 (zB (!(decide (Nt.shV (y.n : Int) S)))) (zzb (zzt (b := !(decide (Nt.shV (y.n : Int) S))) xj (fun hb15 => ?_) (fun hb15 => ?_)))
 ·replace hb15 : (!(decide (Nt.shV (y.n : Int) S))) = true := hb15
  refine sq9 (zza 4 (zI 2) (zzb (zzn (zzv (ret0 [.int .i64 2] ⟨zzp, trivial⟩ fun u16 e17 => ?_)))))
  show Value.int _ _ = Value.int _ _
  congr 1
  symm
  refine Nt.chk_bad (fun h9 => ?_)
  have h8 := hb15
  rw [show ((l.length : Nat) : Int) = (y.n : Int) by omega] at h9
  simp [h9] at h8
 ·replace hb15 : (!(decide (Nt.shV (y.n : Int) S))) = false := hb15
  refine zzr (zzo ?_)
  refine zzd (sq9 (zza 12 (.v y.v) (zza 13 (zI y.n) (zza 14 (zI 0) (zzb (zzs (zym (I := fun m18 S' u' => ∃ (i : Nat), (m18 = l.length - i) ∧ (i ≤ l.length) ∧ (∀ j, j < i → -2147483648 ≤ l.getD j 0 ∧ l.getD j 0 ≤ 2147483647) ∧ (S' = St.of 23 [(12, .v (.slice y.a y.n y.c)), (13, zI y.n), (14, zI i)] []) ∧ (Ext u12 u')) (fun m S u1 u2 e h => by obtain ⟨i, hm, p0, p1, hS, hE⟩ := h; exact ⟨i, hm, p0, p1, hS, hE.trans e⟩) _ yw ⟨0, rfl, by omega, (fun j hj => absurd hj xq), rfl, (Ext.refl _)⟩ ?_)))))))
  rintro m18 _ u18 ⟨i, hm18, hi, hA, rfl, e18⟩
  refine sq9 (zza 15 (zB (decide ((i : Int) < (y.n : Int)))) (zzb (zzd (zzt (b := decide ((i : Int) < (y.n : Int))) xj (fun hb19 => ?_) (fun hb19 => ?_)))))
  ·replace hb19 : (decide ((i : Int) < (y.n : Int))) = true := hb19
   have qhb19 := of_decide_eq_true hb19
   refine zzr (zzo ?_)
   refine zzd (zzs (sq9 ?_))
   have hl20 := ((hy.ext (e11.trans (g13.ext.trans e18)))).1
   obtain ⟨b20, o20, hA20, hc20⟩ := ints_at (hy.ext (e11.trans (g13.ext.trans e18))) (i := i) xq
   have hz20 := ints_bd hb xq i
   refine zzz 16 (o20 + i * 1) (n := y.n) (off := o20) (sz := 1) (i := (i : Int)) xq hA20 xq xq sl30 (zyk 17 (.int .i64 (l.getD i 0)) hc20 ty3 (zza 6 (zI (l.getD i 0)) (zzb (sq9 (zza 18 (zI (l.getD i 0)) (zza 19 (zI (l.getD i 0)) (zzg 20 190 [.int .i64 32, .int .i64 (l.getD i 0)] ?_)))))))
   intro w21 u21 e21 d21
   have k24 := k_fxWrap (b := 32) (v := (l.getD i 0)) d21 xq xq
   with_reducible refine zPm k24 ?_
   rintro _ u22 g23 rfl
   refine zza 21 (zB ((l.getD i 0) != (Nt.wrapW 32 (l.getD i 0)))) (zzb (zzt (b := (l.getD i 0) != (Nt.wrapW 32 (l.getD i 0))) xj (fun hb25 => ?_) (fun hb25 => ?_)))
   ·replace hb25 : ((l.getD i 0) != (Nt.wrapW 32 (l.getD i 0))) = true := hb25
    refine sq9 (zza 4 (zI 17) (zzb (zzn (zyt (zzv (zys (zyt (zzv (ret0 [.int .i64 17] ⟨zzp, trivial⟩ fun u26 e27 => ?_)))))))))
    show Value.int _ _ = Value.int _ _
    congr 1
    symm
    have hV : Nt.shV (l.length : Int) S := by have h8 := hb15; simp at h8; rw [show ((l.length : Nat) : Int) = (y.n : Int) by omega]; exact h8
    refine Nt.chk_not hV (fun h9 => ?_)
    have h8 := hb25
    rw [Nt.wrap_ne] at h8
    have h7 := h9 i xq
    rw [decide_eq_true h7] at h8
    exact absurd h8 xw
   ·replace hb25 : ((l.getD i 0) != (Nt.wrapW 32 (l.getD i 0))) = false := hb25
    refine zzr (zzo ?_)
    refine zzf (zyp 22 (x := zI (IntKind.i64.wrap ((i : Int) + 1))) (zI (i + 1 : Nat)) (eqI xz) (zza 14 (zI (i + 1 : Nat)) (zzw ?_)))
    refine ⟨_, ?_, _, by exact zzu _ _ _, i + 1, rfl, by omega, (fun j hj => by rcases Nat.lt_or_ge j i with h9 | h9; exact hA j h9; (obtain rfl : j = i := by omega); have h8 := hb25; rw [Nt.wrap_ne] at h8; exact of_decide_eq_true (Nt.bnot_f h8)), rfl, (e18.trans (e21.trans g23.ext))⟩
    omega
  ·replace hb19 : (decide ((i : Int) < (y.n : Int))) = false := hb19
   have qhb19 := of_decide_eq_false hb19
   refine zyb (zzo (sq9 (zza 4 (zI 0) (zzb (zzn (ret0 [.int .i64 0] ⟨zzp, trivial⟩ fun u28 e29 => ?_))))))
   show Value.int _ _ = Value.int _ _
   congr 1
   symm
   have hV : Nt.shV (l.length : Int) S := by have h8 := hb15; simp at h8; rw [show ((l.length : Nat) : Int) = (y.n : Int) by omega]; exact h8
   exact Nt.chk_ok hV (fun j hj => hA j xq)
set_option maxHeartbeats 1000000 in
theorem k_cloneI {u w : World} {x : Sl} {l : List Int} (d : Dat u w) (hx : SlR .i64 u x.a x.n x.c l) (h0 : 0 < l.length) (h9 : l.length ≤ 1000000000) : Calls Tryz.prog 115 #[x.v] w (Post u w fun v u' => ∃ (b c : Nat) (X : List Value), v = .slice (some ⟨b, 0, none⟩) x.n c ∧ u.heap.size ≤ b ∧ u'.heap[b]? = some (.cells (ics l ++ X).toArray 3 (0, 0)) ∧ (ics l ++ X).length = c ∧ x.n ≤ c ∧ c ≤ maxLen) := by
 obtain ⟨xa, n0, c0⟩ := x
 obtain ⟨hn, h2, h3, h4⟩ := hx
 change l.length = n0 at hn
 obtain ⟨b0, o0, e, hb0, hc⟩ := h4 (by show 0 < n0; omega)
 change xa = _ at e
 subst e
 change ∀ i, i < n0 → _ at hc
 change Calls _ _ #[.slice (some ⟨b0, o0, none⟩) n0 c0] _ _
 refine zzl (args := [.slice (some ⟨b0, o0, none⟩) n0 c0]) Tryz.func115 rfl Tryz.ntmps115 (rs := [.tmp 2]) Tryz.results115 (le_b rfl) (le_b rfl) d ?_
 refine sq9 (zza 2 (.v (.slice none 0 0)) (zzb (zzd (sq9 (zza 3 (.v (.slice (some ⟨b0, o0, none⟩) n0 c0)) (zza 4 (zB false) (zzb (zyr xj (zzr (zzo ?_))))))))))
 refine sq9 (sy_lit 5 ⟨3, []⟩ 0 ?_)
 refine zza 6 (.v (.slice (some ⟨b0, o0, none⟩) n0 c0)) (sy_app1 7 (T := 30) (E := 3) (z := .int .i64 0) (size := 1) (bytes := 8) (b := b0) (off := o0) (m := n0) (c := c0) (n := 0) (cap := 0) (t := 5) (cs0 := []) [5, 7] (ics l) xj xj xj xw (by rw [zwi, hn, Nat.mul_one]) (fun j v hv => by have h9 := (List.getElem?_eq_some_iff.1 hv).1; rw [zwi] at h9; rw [hc j xq, ← hv, ics_at h9, List.getD_eq_getElem?_getD]) ics_one xq yv xq xq xw rfl xk ?_)
 intro c1 cs k1 k2 k3 k4
 refine zza 2 (.slc 7 0 (0 + n0) c1) (zzc 8 [(2, .slc 7 0 (0 + n0) c1)] [(7, ⟨3, cs⟩)] (zyo (r := 2) (t := 7) [2, 7] xk xj (by rfl) (by rfl) xj (fun b u2 e2 hb hh => ?_)))
 refine zzn (ret0 [.slice (some ⟨b, 0, none⟩) (0 + n0) c1] ⟨zzp, trivial⟩ fun u11 e12 => ?_)
 rw [Nat.zero_add, Nat.mul_one] at k4
 rw [Nat.zero_add] at k1
 rw [Nat.mul_one] at k3
 change cs.take n0 = ics l at k4
 have e9 : cs = ics l ++ cs.drop n0 := by rw [← k4]; exact (List.take_append_drop n0 cs).symm
 refine ⟨b, c1, cs.drop n0, ?_, hb, ?_, by rw [← e9]; exact k3, k1, k2⟩
 ·show Value.slice _ (0 + n0) _ = _; rw [Nat.zero_add]
 ·rw [← e9]; exact e12.cells hh
set_option maxHeartbeats 2000000 in
theorem k_perform {u w : World} {g n c : Nat} {l : List Int} {X : List Value} {t f : Nat} {cf sh sg : Int} (d : Dat u w) (hg : w.heap[g]? = some (.cells (ics l ++ X).toArray 3 (0, 0))) (hu : u.heap[g]? = some hidO) (hl : l.length = n) (hW : Nt.W32 l) (hn9 : n ≤ 1000) (hs : Nt.shOK (n : Int) [(t : Int), (f : Int), cf, sh]) (hsg : sg = 1 ∨ sg = -1) : Calls Tryz.prog 116 #[.slice (some ⟨g, 0, none⟩) n c, .agg #[.int .i64 (t : Int), .int .i64 (f : Int), .int .i64 cf, .int .i64 sh], .int .i64 sg] w (PostL u w g fun V u' => V = ⟨3, ics (Nt.shF [(t : Int), (f : Int), cf, sh] sg l) ++ X⟩) := by
 obtain ⟨h1, h2, h3, h4, h5, h6, h7, h8⟩ := Nt.shOK_mk hs
 have hlt := hW.get t
 have hlf := hW.get f
 have hm := Nt.sh_mul (a := cf) (b := l.getD f 0) (A := 2097152) (B := 2147483648) ⟨h5, h6⟩ ⟨by omega, by omega⟩ xw
 have hsb := Nt.shift_bd2 (cf * l.getD f 0) sh
 have hsx := Nt.sg_bd (x := Nt.shiftW (cf * l.getD f 0) sh 2) (B := 4503599627370497) hsg ⟨by omega, by omega⟩
 refine calls_lent (args := [.agg #[.int .i64 (t : Int), .int .i64 (f : Int), .int .i64 cf, .int .i64 sh], .int .i64 sg]) Tryz.func116 rfl Tryz.ntmps116 Tryz.results116 (le_b rfl) d hg hu ?_
 refine sq9 (zzj 4 ⟨90, [.int .i64 t, .int .i64 f, .int .i64 cf, .int .i64 sh]⟩ (zzb (sq9 (zza 7 (.adr 4 3) (zzh 8 (zI sh) ty3 zzk (zzb (zzs (sq9 (zza 35 (zB (sh == (-1))) (zza 34 (zB (sh == (-1))) (zzb ?_)))))))))))
 refine zzt (b := sh == (-1)) xj (fun hb11 => ?_) (fun hb11 => ?_)
 ·replace hb11 : (sh == (-1)) = true := hb11
  have qhb11 : sh = (-1) := by simpa using hb11
  refine zzy [0, 0, 2, 0, 0, 16, 0, 0, 128, 448, 960, 0, 0, 4096, 14336, 30720, 65479, 131015, 262143, 524287] [(0, []), (1, []), (2, []), (3, []), (4, []), (5, []), (6, []), (7, []), (8, []), (9, []), (10, []), (11, []), (12, []), (13, []), (14, []), (15, []), (16, []), (17, [40]), (18, []), (19, [])] xj xj (zza 36 (.slc 67 0 n c) (zza 37 (.adr 4 0) (zzh 38 (zI t) ty3 zzk (zza 39 (.slc 67 0 n c) (zza 40 (.adr 4 1) (zzh 41 (zI f) ty3 zzk (zza 42 (.slc 67 0 n c) (zza 43 (.adr 4 1) (zzh 44 (zI f) ty3 zzk (zyv 45 (off' := f * 1) (n := n) (off := 0) (sz := 1) (i := (f : Int)) sl30 xq xq xq ?_))))))))))
  refine zzh 46 (V := ⟨3, ics l ++ X⟩) (off := f * 1) (zI (l.getD f 0)) ty3 (part_intsX (l := l) (i := f) (by rw [hl]; omega) rfl) (zza 47 (.slc 67 0 n c) (zza 48 (.adr 4 0) (zzh 49 (zI t) ty3 zzk (zyv 50 (off' := t * 1) (n := n) (off := 0) (sz := 1) (i := (t : Int)) sl30 xq xq xq ?_))))
  refine zzh 51 (V := ⟨3, ics l ++ X⟩) (off := t * 1) (zI (l.getD t 0)) ty3 (part_intsX (l := l) (i := t) (by rw [hl]; omega) rfl) (zyv 52 (off' := t * 1) (n := n) (off := 0) (sz := 1) (i := (t : Int)) sl30 xq xq xq ?_)
  refine zyu (V := ⟨3, ics l ++ X⟩) (off := t * 1) (ics (l.set t (l.getD f 0)) ++ X) ty3 (by rw [List.length_append, zwi, hl]; omega) (setL_intsX (z := (l.getD f 0)) (i := t) (by rw [hl]; omega) rfl) ?_
  refine zyv 53 (off' := f * 1) (n := n) (off := 0) (sz := 1) (i := (f : Int)) sl30 xq xq xq ?_
  refine zyu (V := ⟨3, ics (l.set t (l.getD f 0)) ++ X⟩) (off := f * 1) (ics ((l.set t (l.getD f 0)).set f (l.getD t 0)) ++ X) ty3 (by rw [List.length_append, zwi, (List.length_set.trans hl)]; omega) (setL_intsX (z := (l.getD t 0)) (i := f) (by rw [(List.length_set.trans hl)]; omega) rfl) ?_
  refine zzw ?_
  refine lent_end (V := ⟨3, ics ((l.set t (l.getD f 0)).set f (l.getD t 0)) ++ X⟩) rfl rfl (fun _ _ => ?_)
  rw [(Nt.shF_x qhb11)]
 ·replace hb11 : (sh == (-1)) = false := hb11
  have qhb11 : ¬ sh = (-1) := by simpa using hb11
  refine sq9 (zza 55 (zB (sh == (-2))) (zza 54 (zB (sh == (-2))) (zzb (zzt (b := sh == (-2)) xj (fun hb12 => ?_) (fun hb12 => ?_)))))
  ·replace hb12 : (sh == (-2)) = true := hb12
   have qhb12 : sh = (-2) := by simpa using hb12
   refine zzy [0, 0, 2, 0, 0, 16, 56, 120, 248, 504, 1023, 2047] [(0, []), (1, []), (2, []), (3, []), (4, []), (5, []), (6, []), (7, []), (8, []), (9, []), (10, []), (11, [])] xj xj (zza 56 (.slc 67 0 n c) (zza 57 (.adr 4 0) (zzh 58 (zI t) ty3 zzk (zza 59 (.slc 67 0 n c) (zza 60 (.adr 4 0) (zzh 61 (zI t) ty3 zzk (zyv 62 (off' := t * 1) (n := n) (off := 0) (sz := 1) (i := (t : Int)) sl30 xq xq xq ?_)))))))
   refine zzh 63 (V := ⟨3, ics l ++ X⟩) (off := t * 1) (zI (l.getD t 0)) ty3 (part_intsX (l := l) (i := t) (by rw [hl]; omega) rfl) (zyp 64 (x := zI (IntKind.i64.wrap (0 - (l.getD t 0)))) (zI (-(l.getD t 0))) (eqI xz) (zzg 65 190 [.int .i64 32, .int .i64 (-(l.getD t 0))] ?_))
   intro w13 u13 e13 d13
   have k16 := k_fxWrap (b := 32) (v := -(l.getD t 0)) d13 xq xq
   with_reducible refine zPm k16 ?_
   rintro _ u14 g15 rfl
   refine zyv 66 (off' := t * 1) (n := n) (off := 0) (sz := 1) (i := (t : Int)) sl30 xq xq xq ?_
   refine zyu (V := ⟨3, ics l ++ X⟩) (off := t * 1) (ics (l.set t (Nt.wrapW 32 (-(l.getD t 0)))) ++ X) ty3 (by rw [List.length_append, zwi, hl]; omega) (setL_intsX (z := Nt.wrapW 32 (-(l.getD t 0))) (i := t) (by rw [hl]; omega) rfl) ?_
   refine zzw ?_
   refine lent_end (V := ⟨3, ics (l.set t (Nt.wrapW 32 (-(l.getD t 0)))) ++ X⟩) rfl rfl (fun _ _ => ?_)
   rw [(Nt.shF_n qhb12)]
  ·replace hb12 : (sh == (-2)) = false := hb12
   have qhb12 : ¬ sh = (-2) := by simpa using hb12
   refine zzd (zzy [0, 1, 0, 0, 8, 28, 60, 127, 0, 256, 1023, 2047] [(0, []), (1, []), (2, []), (3, []), (4, []), (5, []), (6, []), (7, []), (8, []), (9, []), (10, []), (11, [])] xj xj (zza 9 (.adr 4 2) (zzh 10 (zI cf) ty3 zzk (zza 11 (.slc 67 0 n c) (zza 12 (.adr 4 1) (zzh 13 (zI f) ty3 zzk (zyv 14 (off' := f * 1) (n := n) (off := 0) (sz := 1) (i := (f : Int)) sl30 xq xq xq ?_)))))))
   refine zzh 15 (V := ⟨3, ics l ++ X⟩) (off := f * 1) (zI (l.getD f 0)) ty3 (part_intsX (l := l) (i := f) (by rw [hl]; omega) rfl) (zyp 16 (x := zI (IntKind.i64.wrap (cf * (l.getD f 0)))) (zI (cf * (l.getD f 0))) yq (zza 17 (.adr 4 3) (zzh 18 (zI sh) ty3 zzk (zzg 19 191 [.int .i64 (cf * (l.getD f 0)), .int .i64 sh, .int .i64 2] ?_))))
   intro w17 u17 e17 d17
   have k20 := k_fxShift (v := cf * (l.getD f 0)) (n := sh) (r := 2) d17 xq xq xq xq xq
   with_reducible refine zPm k20 ?_
   rintro _ u18 g19 rfl
   refine zza 6 (zI (Nt.shiftW (cf * (l.getD f 0)) sh 2)) (zzc 67 [(0, .slc 67 0 n c), (2, zI sg), (4, .adr 4 0), (6, zI (Nt.shiftW (cf * (l.getD f 0)) sh 2))] [(4, ⟨90, [.int .i64 t, .int .i64 f, .int .i64 cf, .int .i64 sh]⟩), (67, ⟨3, ics l ++ X⟩)] (zzy [0, 0, 2, 0, 0, 16, 56, 120, 0, 0, 768, 2040, 4088, 8191, 16383] [(0, []), (1, []), (2, []), (3, []), (4, []), (5, []), (6, []), (7, []), (8, []), (9, []), (10, []), (11, []), (12, []), (13, []), (14, [])] xj xj (zza 20 (.slc 67 0 n c) (zza 21 (.adr 4 0) (zzh 22 (zI t) ty3 zzk (zza 23 (.slc 67 0 n c) (zza 24 (.adr 4 0) (zzh 25 (zI t) ty3 zzk (zyv 26 (off' := t * 1) (n := n) (off := 0) (sz := 1) (i := (t : Int)) sl30 xq xq xq ?_)))))))))
   refine zzh 27 (V := ⟨3, ics l ++ X⟩) (off := t * 1) (zI (l.getD t 0)) ty3 (part_intsX (l := l) (i := t) (by rw [hl]; omega) rfl) (zza 28 (zI sg) (zza 29 (zI (Nt.shiftW (cf * (l.getD f 0)) sh 2)) (zyp 30 (x := zI (IntKind.i64.wrap (sg * (Nt.shiftW (cf * (l.getD f 0)) sh 2)))) (zI (sg * (Nt.shiftW (cf * (l.getD f 0)) sh 2))) yq (zyp 31 (x := zI (IntKind.i64.wrap ((l.getD t 0) + (sg * (Nt.shiftW (cf * (l.getD f 0)) sh 2))))) (zI ((l.getD t 0) + (sg * (Nt.shiftW (cf * (l.getD f 0)) sh 2)))) yq (zzg 32 190 [.int .i64 32, .int .i64 ((l.getD t 0) + (sg * (Nt.shiftW (cf * (l.getD f 0)) sh 2)))] ?_)))))
   intro w21 u21 e21 d21
   have k24 := k_fxWrap (b := 32) (v := (l.getD t 0) + (sg * (Nt.shiftW (cf * (l.getD f 0)) sh 2))) d21 xq xq
   with_reducible refine zPm k24 ?_
   rintro _ u22 g23 rfl
   refine zyv 33 (off' := t * 1) (n := n) (off := 0) (sz := 1) (i := (t : Int)) sl30 xq xq xq ?_
   refine zyu (V := ⟨3, ics l ++ X⟩) (off := t * 1) (ics (l.set t (Nt.wrapW 32 ((l.getD t 0) + (sg * (Nt.shiftW (cf * (l.getD f 0)) sh 2))))) ++ X) ty3 (by rw [List.length_append, zwi, hl]; omega) (setL_intsX (z := Nt.wrapW 32 ((l.getD t 0) + (sg * (Nt.shiftW (cf * (l.getD f 0)) sh 2)))) (i := t) (by rw [hl]; omega) rfl) ?_
   refine zzw ?_
   refine lent_end (V := ⟨3, ics (l.set t (Nt.wrapW 32 ((l.getD t 0) + (sg * (Nt.shiftW (cf * (l.getD f 0)) sh 2))))) ++ X⟩) rfl rfl (fun _ _ => ?_)
   rw [(Nt.shF_s qhb11 qhb12)]
set_option maxHeartbeats 2000000 in
theorem k_dforward {u w : World} {x y : Sl} {S : List (List Int)} {l : List Int} (d : Dat u w) (hx : IrV 4 u x S) (h9 : S.length ≤ 1000000) (hy : SlR .i64 u y.a y.n y.c l) (hb : ∀ z ∈ l, -9223372036854775808 ≤ z ∧ z ≤ 9223372036854775807) (h8 : l.length ≤ 1000000) : Calls Tryz.prog 49 #[x.v, y.v] w (Post u w fun v u' => ∃ z : Sl, v = .tuple #[z.v, .int .i64 (Nt.chkE S l)] ∧ SlR .i64 u' z.a z.n z.c (Nt.fwdL S l)) := by
 have hlx : x.n = S.length := hx.len
 have hly : l.length = y.n := hy.1
 refine zzl (args := [.slice x.a x.n x.c, .slice y.a y.n y.c]) Tryz.func49 rfl Tryz.ntmps49 (rs := [.tmp 4, .tmp 5]) Tryz.results49 (le_b rfl) (le_b rfl) d ?_
 refine sq9 (zza 4 (.v (.slice none 0 0)) (zza 5 (zI 0) (zzb (zzd (sq9 (zza 10 (.v x.v) (zza 11 (.v y.v) (zzg 12 114 [x.v, y.v] ?_))))))))
 intro w11 u11 e11 d11
 have k14 := k_dcheck (x := x) (y := y) d11 (hx.ext e11) xq (hy.ext e11) hb xq
 with_reducible refine zPm k14 ?_
 rintro _ u12 g13 rfl
 refine zza 6 (zI (Nt.chkE S l)) (zzb (sq9 (zza 13 (zI (Nt.chkE S l)) (zza 14 (zB ((Nt.chkE S l) != 0)) (zzb (zzt (b := (Nt.chkE S l) != 0) xj (fun hb15 => ?_) (fun hb15 => ?_)))))))
 ·replace hb15 : ((Nt.chkE S l) != 0) = true := hb15
  have hE : ¬ Nt.chkE S l = 0 := by simpa using hb15
  refine sq9 (zza 15 (zI (Nt.chkE S l)) (zza 4 (.v (.slice none 0 0)) (zza 5 (zI (Nt.chkE S l)) (zzb (zzn (zzv (ret0 [.slice none 0 0, .int .i64 (Nt.chkE S l)] ⟨zzp, zzp, trivial⟩ fun u16 e17 => ?_)))))))
  rw [show Nt.fwdL S l = [] from if_neg hE]
  exact ⟨sl0, rfl, rfl, Nat.le_refl _, Nat.zero_le _, fun h => absurd h (Nat.lt_irrefl 0)⟩
 ·replace hb15 : ((Nt.chkE S l) != 0) = false := hb15
  have hE : Nt.chkE S l = 0 := by simpa using hb15
  obtain ⟨hV, hW⟩ := Nt.chk_0 hE
  have hV1 := hV.1
  have hV2 := hV.2.1
  have hV3 := hV.2.2.1
  refine zzr (zzo ?_)
  refine sq9 (zza 16 (.v y.v) (zzg 17 115 [y.v] ?_))
  intro w18 u18 e18 d18
  have k29 := k_cloneI (x := y) d18 (hy.ext (e11.trans (g13.ext.trans e18))) xq xq
  with_reducible refine zPm k29 ?_
  rintro _ u27 g28 ⟨b19, c20, X21, rfl, hb22, hh23, hlX24, hle25, hmx26⟩
  refine zza 7 (.v (.slice (some ⟨b19, 0, none⟩) y.n c20)) (zzb (zzd (zzd (sw_adopt (r := 7) (k := 7) (cs := ics l ++ X21) (by rfl) hh23 (Nat.le_trans ((e11.trans (g13.ext.trans e18)).size) hb22) xj (fun u30 eB31 => ?_)))))
  refine zzf (zza 18 (.v x.v) (zza 19 (zI x.n) (zza 20 (zI 0) (zzb (zzs (zym (I := fun m32 S' u' => ∃ (i : Nat), (m32 = S.length - i) ∧ (i ≤ S.length) ∧ (S' = St.of 29 [(7, .slc 7 0 y.n c20), (18, .v (.slice x.a x.n x.c)), (19, zI x.n), (20, zI i)] [(7, ⟨3, ics (Nt.shFs (S.take i) l) ++ X21⟩)]) ∧ (Ext u30 u')) (fun m S u1 u2 e h => by obtain ⟨i, hm, p0, hS, hE⟩ := h; exact ⟨i, hm, p0, hS, hE.trans e⟩) _ yw ⟨0, rfl, by omega, rfl, (Ext.refl _)⟩ ?_))))))
  rintro m32 _ u32 ⟨i, hm32, hi, rfl, e32⟩
  refine sq9 (zza 21 (zB (decide ((i : Int) < (x.n : Int)))) (zzb (zzd (zzt (b := decide ((i : Int) < (x.n : Int))) xj (fun hb33 => ?_) (fun hb33 => ?_)))))
  ·replace hb33 : (decide ((i : Int) < (x.n : Int))) = true := hb33
   have qhb33 := of_decide_eq_true hb33
   refine zzr (zzo ?_)
   refine zzd (zzs (sq9 ?_))
   have hl34 := ((hx.ext (e11.trans (g13.ext.trans (e18.trans ((ExtB.old eB31 g28.ext hb22).trans e32)))))).len
   obtain ⟨b34, o34, hA34, hc34⟩ := ir_at4 (hx.ext (e11.trans (g13.ext.trans (e18.trans ((ExtB.old eB31 g28.ext hb22).trans e32))))) (i := i) xq
   refine zzz 22 (o34 + i * 4) (n := x.n) (off := o34) (sz := 4) (i := (i : Int)) xq hA34 xq xq sl64 (zyl 23 [.int .i64 (gi S i 0), .int .i64 (gi S i 1), .int .i64 (gi S i 2), .int .i64 (gi S i 3)] hc34 ty90 (zzj 9 ⟨90, [.int .i64 0, .int .i64 0, .int .i64 0, .int .i64 0]⟩ (zzi ⟨90, [.int .i64 (gi S i 0), .int .i64 (gi S i 1), .int .i64 (gi S i 2), .int .i64 (gi S i 3)]⟩ ty90 ?_)))
   refine zzb ?_
   have hsO := hV.2.2.2 i xq
   rw [row4 hx.rows xq] at hsO
   obtain ⟨tz, htz⟩ : ∃ t : Nat, gi S i 0 = (t : Int) := ⟨(gi S i 0).toNat, by have h9 : 0 ≤ gi S i 0 := hsO.1; omega⟩
   obtain ⟨fz, hfz⟩ : ∃ t : Nat, gi S i 1 = (t : Int) := ⟨(gi S i 1).toNat, by have h9 : 0 ≤ gi S i 1 := hsO.2.2.1; omega⟩
   rw [htz, hfz]
   rw [htz, hfz] at hsO
   refine zzf (zza 24 (.slc 7 0 y.n c20) (zzh 25 (.v (.agg #[.int .i64 tz, .int .i64 fz, .int .i64 (gi S i 2), .int .i64 (gi S i 3)])) ty90 zze ?_))
   have kc35 := fun (g : Nat) (w u1 : World) (e : Ext u32 u1) (d : Dat u1 w) (hg : w.heap[g]? = some (.cells (ics (Nt.shFs (S.take i) l) ++ X21).toArray 3 (0, 0))) (hu : u1.heap[g]? = some hidO) => k_perform (n := y.n) (c := c20) (t := tz) (f := fz) (cf := gi S i 2) (sh := gi S i 3) (sg := 1) d hg hu (Nt.shFs_len.trans hly) (Nt.shFs_w32 hW) xq (by rw [show ((y.n : Nat) : Int) = (l.length : Int) by omega]; exact hsO) xw
   refine sy_lend 26 116 (t := 7) (V := ⟨3, ics (Nt.shFs (S.take i) l) ++ X21⟩) (len := y.n) (cap := c20) [.agg #[.int .i64 tz, .int .i64 fz, .int .i64 (gi S i 2), .int .i64 (gi S i 3)], .int .i64 1] xj kc35 ?_
   clear kc35
   rintro _ u35 e35 rfl
   refine zzw ?_
   refine zzo (zzf (zyp 27 (x := zI (IntKind.i64.wrap ((i : Int) + 1))) (zI (i + 1 : Nat)) (eqI xz) (zza 20 (zI (i + 1 : Nat)) (zzw ?_))))
   have hM2 : Nt.shFs (S.take (i + 1)) l = Nt.shF [(tz : Int), (fz : Int), gi S i 2, gi S i 3] 1 (Nt.shFs (S.take i) l) := by rw [Nt.shFs_snoc S i xq, row4 hx.rows xq, htz, hfz]
   rw [← hM2]
   refine ⟨_, ?_, _, by exact zzu _ _ _, i + 1, rfl, by omega, rfl, (e32.trans e35)⟩
   omega
  ·replace hb33 : (decide ((i : Int) < (x.n : Int))) = false := hb33
   have qhb33 := of_decide_eq_false hb33
   refine zyb (zzo (zzd (zyo (r := 7) (t := 7) [7] xk xj (by rfl) (by rfl) xj (fun b36 u37 e38 hb39 hh40 => ?_))))
   have hp41 : SlR .i64 u37 (some ⟨b36, 0, none⟩) y.n c20 (Nt.shFs (S.take i) l) := ints_dataX hh40 (Nt.shFs_len.trans hly) hlX24 hle25 hmx26
   refine zzf (zza 28 (.v (.slice (some ⟨b36, 0, none⟩) y.n c20)) (zza 4 (.v (.slice (some ⟨b36, 0, none⟩) y.n c20)) (zza 5 (zI 0) (zzb (zzn (ret0 [.slice (some ⟨b36, 0, none⟩) y.n c20, .int .i64 0] ⟨zzp, zzp, trivial⟩ fun u42 e43 => ?_))))))
   rw [show Nt.fwdL S l = Nt.shFs S l from if_pos hE, hE]
   refine ⟨(⟨some ⟨b36, 0, none⟩, y.n, c20⟩ : Sl), rfl, ?_⟩
   have h7 := (hp41.ext e43)
   rw [show i = S.length by omega, List.take_length] at h7
   exact h7
namespace Nt
def flr (q : Rat) : Int := q.num / (q.den : Int)
def dnQ (q : Rat) (k : Nat) : Rat := mkRat (flr (q * ((2 ^ k : Nat) : Rat))) (2 ^ k)
theorem flr_mk {z : Int} {D : Nat} (hD : 0 < D) : flr (mkRat z D) = z / (D : Int) := by
 have h1 : mkRat z D = mkRat (mkRat z D).num (mkRat z D).den := (Rat.mkRat_self _).symm
 rw [Rat.mkRat_eq_iff xq (by have := (mkRat z D).den_pos; omega)] at h1
 have hd := (mkRat z D).den_pos
 unfold flr
 generalize (mkRat z D).num = n at *
 generalize (mkRat z D).den = d at *
 have e1 : z / (D : Int) = ((d : Int) * z) / ((d : Int) * (D : Int)) := (Int.mul_ediv_mul_of_pos _ _ xq).symm
 have e2 : n / (d : Int) = ((D : Int) * n) / ((D : Int) * (d : Int)) := (Int.mul_ediv_mul_of_pos _ _ xq).symm
 rw [e1, e2, Int.mul_comm (d : Int) z, h1, Int.mul_comm n, Int.mul_comm (d : Int)]
theorem shl_mk (z : Int) (D m : Nat) : mkRat z D * ((m : Nat) : Rat) = mkRat (z * (m : Int)) D := by
 rw [Rat.mkRat_eq_div, Rat.mkRat_eq_div, Rat.intCast_mul]
 show (z : Rat) / (D : Rat) * (m : Rat) = (z : Rat) * ((m : Int) : Rat) / (D : Rat)
 have : ((m : Int) : Rat) = (m : Rat) := rfl
 rw [this]
 grind
theorem dn_mk {z : Int} {D k : Nat} (hD : 0 < D) : dnQ (mkRat z D) k = mkRat ((z * ((2 ^ k : Nat) : Int)) / (D : Int)) (2 ^ k) := by
 unfold dnQ
 rw [shl_mk, flr_mk hD]
theorem sg_mulN {s : Bool} {N m : Nat} : sg s ((sg s N).natAbs * m) = sg s N * (m : Int) := by
 rw [sg_abs]
 unfold sg
 cases s
 ·simp
 ·simp [Int.neg_mul]
theorem rdiv0 {s : Bool} {N D : Nat} (hD : 0 < D) (h : ¬ (s = true ∧ 0 < N % D)) : sg s N / (D : Int) = sg (!(s == false)) (N / D) ∧ sg s N % (D : Int) = sg false (N % D) := by
 have hm := Nat.mod_lt N hD
 have hk := Nat.div_add_mod N D
 have hk2 : (N : Int) = (D : Int) * ((N / D : Nat) : Int) + ((N % D : Nat) : Int) := by rw [← Int.natCast_mul, ← Int.natCast_add, hk]
 apply ediv_uniq xq
 ·unfold sg
  cases s
  ·simpa using hk2
  ·have h0 : N % D = 0 := by simp at h; omega
   rw [h0] at hk2 ⊢
   generalize N / D = Q at *
   simp [Int.mul_neg]
   omega
 ·unfold sg; simp; omega
 ·unfold sg; simp; omega
theorem rdiv1 {N D : Nat} (hD : 0 < D) (h : 0 < N % D) : sg true N / (D : Int) = sg (!(true == false)) (N / D + 1) ∧ sg true N % (D : Int) = sg false (D - N % D) := by
 have hm := Nat.mod_lt N hD
 have hk := Nat.div_add_mod N D
 have hk2 : (N : Int) = (D : Int) * ((N / D : Nat) : Int) + ((N % D : Nat) : Int) := by rw [← Int.natCast_mul, ← Int.natCast_add, hk]
 apply ediv_uniq xq
 ·unfold sg
  simp
  rw [show ((N : Int) / (D : Int)) = ((N / D : Nat) : Int) from rfl, show ((D - N % D : Nat) : Int) = (D : Int) - ((N % D : Nat) : Int) by omega, Int.mul_neg, Int.mul_add]
  omega
 ·unfold sg; simp
 ·unfold sg; simp; omega
end Nt
end Go.Proofs.YtbolmkfphieogaaGreat
namespace Go.Proofs.YtbolmkfphieogaaGreat
set_option linter.unusedVariables false
namespace Nt
def sgn (j : Nat) : Rat := if j % 2 = 0 then 1 else -1
theorem sgn_s (j : Nat) : sgn (j + 1) = -sgn j := by
 unfold sgn
 rcases Nat.mod_two_eq_zero_or_one j with h | h
 ·rw [if_pos h, if_neg (show ¬ (j + 1) % 2 = 0 by omega)]
 ·rw [if_neg (show ¬ j % 2 = 0 by omega), if_pos (show (j + 1) % 2 = 0 by omega)]; rfl
theorem sgn_or (j : Nat) : sgn j = 1 ∨ sgn j = -1 := by unfold sgn; split <;> simp
def alt (a : Nat → Rat) : Nat → Rat
 | 0 => 0
 | n + 1 => alt a n + sgn n * a n
theorem alt_s (a : Nat → Rat) (n : Nat) : alt a (n + 1) = alt a n + sgn n * a n := rfl
theorem alt_tail {a : Nat → Rat} {j0 : Nat} (h0 : ∀ j, 0 ≤ a j) (hd : ∀ j, j0 ≤ j → a (j + 1) ≤ a j) : ∀ d j, j0 ≤ j → 0 ≤ sgn j * (alt a (j + d) - alt a j) ∧ sgn j * (alt a (j + d) - alt a j) ≤ a j := by
 intro d
 induction d with
 | zero => intro j _; have := h0 j; rw [Nat.add_zero, Rat.sub_self, Rat.mul_zero]; exact ⟨Rat.le_refl, this⟩
 | succ d ih =>
  intro j hj
  have h1 := ih (j + 1) xq
  have h2 := hd j hj
  have h3 := h0 (j + 1)
  rw [show j + 1 + d = j + (d + 1) by omega, sgn_s, alt_s] at h1
  generalize alt a (j + (d + 1)) = x at *
  generalize alt a j = y at *
  rcases sgn_or j with e | e <;> rw [e] at h1 ⊢ <;> grind
theorem alt_near {a : Nat → Rat} {j0 j m : Nat} (h0 : ∀ j, 0 ≤ a j) (hd : ∀ j, j0 ≤ j → a (j + 1) ≤ a j) (hj : j0 ≤ j) (hm : j ≤ m) : alt a j - a j ≤ alt a m ∧ alt a m ≤ alt a j + a j := by
 obtain ⟨d, rfl⟩ : ∃ d, m = j + d := ⟨m - j, by omega⟩
 have h1 := alt_tail h0 hd d j hj
 rcases sgn_or j with e | e <;> rw [e] at h1 <;> grind
theorem div_nn {x y : Rat} (hx : 0 ≤ x) (hy : 0 < y) : 0 ≤ x / y := by
 rw [Rat.div_def]; exact Rat.mul_nonneg hx (Rat.le_of_lt (Rat.inv_pos.2 hy))
theorem div_mul_c {x y : Rat} (hy : 0 < y) : x / y * y = x := by
 rw [Rat.div_def, Rat.mul_assoc, Rat.inv_mul_cancel _ (by grind), Rat.mul_one]
theorem le_dv {x y z : Rat} (hy : 0 < y) (h : x * y ≤ z) : x ≤ z / y := by
 refine Rat.le_of_mul_le_mul_right (c := y) ?_ hy
 rw [div_mul_c hy]; exact h
theorem dv_le {x y z : Rat} (hy : 0 < y) (h : z ≤ x * y) : z / y ≤ x := by
 refine Rat.le_of_mul_le_mul_right (c := y) ?_ hy
 rw [div_mul_c hy]; exact h
theorem div_le_self {x y : Rat} (hx : 0 ≤ x) (hy : 1 ≤ y) : x / y ≤ x := by
 refine dv_le (by grind) ?_
 have := Rat.mul_le_mul_of_nonneg_left (a := 1) (b := y) (c := x) hy hx
 grind
theorem div_mono {x x' y : Rat} (hy : 0 < y) (h : x ≤ x') : x / y ≤ x' / y := by
 refine le_dv hy ?_
 rw [div_mul_c hy]; exact h
theorem mulm {a b c d : Rat} (h1 : a ≤ b) (h2 : c ≤ d) (h3 : 0 ≤ a) (h4 : 0 ≤ c) : a * c ≤ b * d :=
 Rat.le_trans (Rat.mul_le_mul_of_nonneg_right h1 h4) (Rat.mul_le_mul_of_nonneg_left h2 (Rat.le_trans h3 h1))
def atP (n : Nat) : Nat → Rat
 | 0 => 1 / (n : Rat)
 | j + 1 => atP n j / ((n * n : Nat) : Rat)
def atT (n j : Nat) : Rat := atP n j / ((2 * j + 1 : Nat) : Rat)
theorem cast_pos {n : Nat} (h : 0 < n) : (0 : Rat) < (n : Rat) := by
 have : ((0 : Nat) : Rat) < (n : Rat) := Rat.natCast_lt_natCast.2 h
 exact this
theorem cast_one {n : Nat} (h : 0 < n) : (1 : Rat) ≤ (n : Rat) := by
 have : ((1 : Nat) : Rat) ≤ (n : Rat) := Rat.natCast_le_natCast.2 h
 exact this
theorem atP_nn {n : Nat} (hn : 0 < n) : ∀ j, 0 ≤ atP n j
 | 0 => div_nn xw (cast_pos hn)
 | j + 1 => div_nn (atP_nn hn j) (cast_pos (Nat.mul_pos hn hn))
theorem atT_nn {n : Nat} (hn : 0 < n) (j : Nat) : 0 ≤ atT n j := div_nn (atP_nn hn j) (cast_pos xq)
theorem atP_le {n : Nat} (hn : 0 < n) (j : Nat) : atP n (j + 1) ≤ atP n j := div_le_self (atP_nn hn j) (cast_one (Nat.mul_pos hn hn))
theorem atT_le {n : Nat} (hn : 0 < n) (j : Nat) : atT n (j + 1) ≤ atT n j := by
 have h1 := atP_le hn j
 have h2 := atP_nn hn (j + 1)
 refine Rat.le_trans (b := atP n (j + 1) / ((2 * j + 1 : Nat) : Rat)) ?_ (div_mono (cast_pos xq) h1)
 refine dv_le (cast_pos xq) ?_
 have h3 : ((2 * j + 1 : Nat) : Rat) ≤ ((2 * (j + 1) + 1 : Nat) : Rat) := Rat.natCast_le_natCast.2 xq
 have h4 := Rat.mul_le_mul_of_nonneg_left (c := atP n (j + 1) / ((2 * j + 1 : Nat) : Rat)) h3 (div_nn h2 (cast_pos xq))
 rw [div_mul_c (cast_pos xq)] at h4
 exact h4
def piN (m : Nat) : Rat := 16 * alt (atT 5) m - 4 * alt (atT 239) m
theorem atT_b {n : Nat} (hn : 0 < n) {m : Nat} (hm : 1 ≤ m) : atT n 0 - atT n 1 ≤ alt (atT n) m ∧ alt (atT n) m ≤ atT n 0 := by
 obtain ⟨d, rfl⟩ : ∃ d, m = 1 + d := ⟨m - 1, by omega⟩
 have h1 := alt_tail (j0 := 0) (atT_nn hn) (fun j _ => atT_le hn j) d 1 xq
 have h2 : alt (atT n) 1 = atT n 0 := by show 0 + (1 : Rat) * atT n 0 = _; grind
 have h3 : sgn 1 = -1 := rfl
 rw [h2, h3] at h1
 grind
theorem piN_b {m : Nat} (hm : 1 ≤ m) : 157 / 50 ≤ piN m ∧ piN m ≤ 16 / 5 := by
 have h1 := atT_b (n := 5) xw hm
 have h2 := atT_b (n := 239) xw hm
 have e1 : atT 5 0 = 1 / 5 := by decide +kernel
 have e2 : atT 5 1 = 1 / 375 := by decide +kernel
 have e3 : atT 239 0 = 1 / 239 := by decide +kernel
 have e4 : atT 239 0 - atT 239 1 ≥ 0 := by decide +kernel
 unfold piN
 rw [e1, e2] at h1
 rw [e3] at h2 e4
 constructor
 ·have : (157 / 50 : Rat) ≤ 16 * (1 / 5 - 1 / 375) - 4 * (1 / 239) := by decide +kernel
  grind
 ·have : (16 : Rat) * (1 / 5) ≤ 16 / 5 := by decide +kernel
  grind
def csT (y : Rat) : Nat → Rat
 | 0 => 1
 | j + 1 => csT y j * (y * y) / (((2 * j + 2) * (2 * j + 1) : Nat) : Rat)
theorem csq_nn (y : Rat) : 0 ≤ y * y := by
 rcases Rat.le_total (a := 0) (b := y) with h | h
 ·exact Rat.mul_nonneg h h
 ·have h1 : 0 ≤ -y := by grind
  have h2 := Rat.mul_nonneg h1 h1
  grind
theorem csT_nn (y : Rat) : ∀ j, 0 ≤ csT y j
 | 0 => by show (0 : Rat) ≤ 1; decide
 | j + 1 => div_nn (Rat.mul_nonneg (csT_nn y j) (csq_nn y)) (cast_pos (Nat.mul_pos xq xq))
theorem csT_le {y : Rat} (hy : y * y ≤ 12) : ∀ j, 1 ≤ j → csT y (j + 1) ≤ csT y j := by
 intro j hj
 refine dv_le (cast_pos (Nat.mul_pos xq xq)) ?_
 refine Rat.mul_le_mul_of_nonneg_left ?_ (csT_nn y j)
 have : ((12 : Nat) : Rat) ≤ (((2 * j + 2) * (2 * j + 1) : Nat) : Rat) := Rat.natCast_le_natCast.2 (by
  have := Nat.mul_le_mul (show 4 ≤ 2 * j + 2 by omega) (show 3 ≤ 2 * j + 1 by omega); omega)
 exact Rat.le_trans hy this
def csY (p q m : Nat) : Rat := piN m * (p : Rat) / (q : Rat)
def coN (p q m : Nat) : Rat := alt (csT (csY p q m)) m
def cdiv (b d : Int) : Int := -((-b) / d)
theorem fl_mul {a d : Int} (hd : 0 < d) : a / d * d ≤ a ∧ a - d + 1 ≤ a / d * d := by
 have h1 := Int.ediv_mul_le a (b := d) xq
 have h2 := Int.lt_ediv_add_one_mul_self a hd
 rw [Int.add_mul, Int.one_mul] at h2
 omega
theorem cd_mul {b d : Int} (hd : 0 < d) : b ≤ cdiv b d * d ∧ cdiv b d * d ≤ b + d - 1 := by
 have h1 := fl_mul (a := -b) hd
 unfold cdiv
 rw [Int.neg_mul]
 omega
theorem cd_eq0 {b d : Int} (hd : 0 < d) (h : b % d = 0) : cdiv b d = b / d := by
 have h1 := Int.emod_add_mul_ediv b d
 unfold cdiv
 have h2 : -b = d * (-(b / d)) := by rw [Int.mul_neg]; omega
 rw [h2, Int.mul_ediv_cancel_left _ xq]; omega
theorem cd_eq1 {b d : Int} (hd : 0 < d) (h : ¬ b % d = 0) : cdiv b d = b / d + 1 := by
 have h1 := Int.emod_add_mul_ediv b d
 have h2 := Int.emod_nonneg b (b := d) xq
 have h3 := Int.emod_lt_of_pos b hd
 have h4 := cd_mul (b := b) hd
 have h5 : b / d * d < cdiv b d * d := by rw [Int.mul_comm]; omega
 have h6 : cdiv b d * d < (b / d + 2) * d := by rw [Int.add_mul, Int.mul_comm (b / d)]; omega
 have h7 := Int.lt_of_mul_lt_mul_right h5 xq
 have h8 := Int.lt_of_mul_lt_mul_right h6 xq
 omega
theorem cd_width {a b d : Int} (hd : 0 < d) : (cdiv b d - a / d) * d ≤ b - a + 2 * d - 2 := by
 have h1 := fl_mul (a := a) hd
 have h2 := cd_mul (b := b) hd
 rw [Int.sub_mul]; omega
theorem cast_mul_le {a b c : Int} (h : a * b ≤ c) : (a : Rat) * (b : Rat) ≤ (c : Rat) := by
 have := Rat.intCast_le_intCast.2 h
 rwa [Rat.intCast_mul] at this
theorem castI_pos {d : Int} (h : 0 < d) : (0 : Rat) < (d : Rat) := by
 have := Rat.intCast_lt_intCast.2 h
 exact this
theorem fl_le {a d : Int} {z : Rat} (hd : 0 < d) (h : (a : Rat) ≤ z) : ((a / d : Int) : Rat) ≤ z / (d : Rat) := by
 refine le_dv (castI_pos hd) (Rat.le_trans (cast_mul_le (fl_mul (a := a) hd).1) h)
theorem le_ce {b d : Int} {z : Rat} (hd : 0 < d) (h : z ≤ (b : Rat)) : z / (d : Rat) ≤ ((cdiv b d : Int) : Rat) := by
 refine dv_le (castI_pos hd) (Rat.le_trans h ?_)
 have := Rat.intCast_le_intCast.2 (cd_mul (b := b) hd).1
 rwa [Rat.intCast_mul] at this
def Enc (U : Int) (lo hi : Int) (x : Rat) : Prop := (lo : Rat) ≤ x * (U : Rat) ∧ x * (U : Rat) ≤ (hi : Rat)
section
variable {U a b a' b' d : Int} {x y : Rat}
theorem Enc.over (h : Enc U a b x) (hd : 0 < d) : Enc U (a / d) (cdiv b d) (x / (d : Rat)) := by
 have h1 := fl_le hd h.1
 have h2 := le_ce hd h.2
 have e : x / (d : Rat) * (U : Rat) = x * (U : Rat) / (d : Rat) := by rw [Rat.div_def, Rat.div_def]; grind
 unfold Enc
 rw [e]
 exact ⟨h1, h2⟩
theorem Enc.add (h : Enc U a b x) (k : Enc U a' b' y) : Enc U (a + a') (b + b') (x + y) := by
 obtain ⟨h1, h2⟩ := h
 obtain ⟨k1, k2⟩ := k
 unfold Enc
 rw [Rat.intCast_add, Rat.intCast_add]
 constructor <;> grind
theorem Enc.sub (h : Enc U a b x) (k : Enc U a' b' y) : Enc U (a - b') (b - a') (x - y) := by
 obtain ⟨h1, h2⟩ := h
 obtain ⟨k1, k2⟩ := k
 unfold Enc
 rw [Rat.intCast_sub, Rat.intCast_sub]
 constructor <;> grind
theorem Enc.times {n : Nat} (h : Enc U a b x) : Enc U (a * (n : Int)) (b * (n : Int)) (x * (n : Rat)) := by
 obtain ⟨h1, h2⟩ := h
 have hn : (0 : Rat) ≤ (n : Rat) := by
  have : ((0 : Nat) : Rat) ≤ (n : Rat) := Rat.natCast_le_natCast.2 (Nat.zero_le n)
  exact this
 have k1 := Rat.mul_le_mul_of_nonneg_right h1 hn
 have k2 := Rat.mul_le_mul_of_nonneg_right h2 hn
 have e : (((n : Nat) : Int) : Rat) = (n : Rat) := rfl
 unfold Enc
 rw [Rat.intCast_mul, Rat.intCast_mul, e]
 constructor <;> grind
theorem Enc.near {r : Rat} (h : Enc U a b x) (h1 : x - r ≤ y) (h2 : y ≤ x + r) (hr : r * (U : Rat) ≤ 1) (hU : 0 < U) : Enc U (a - 1) (b + 1) y := by
 obtain ⟨k1, k2⟩ := h
 have k3 := Rat.mul_le_mul_of_nonneg_right h1 (Rat.le_of_lt (castI_pos hU))
 have k4 := Rat.mul_le_mul_of_nonneg_right h2 (Rat.le_of_lt (castI_pos hU))
 unfold Enc
 rw [Rat.intCast_sub, Rat.intCast_add]
 have e : ((1 : Int) : Rat) = 1 := rfl
 rw [e]
 constructor <;> grind
theorem Enc.prod (h : Enc U a b x) (k : Enc U a' b' y) (ha : 0 ≤ a) (ha' : 0 ≤ a') (hU : 0 < U) : Enc U (a * a' / U) (cdiv (b * b') U) (x * y) := by
 obtain ⟨h1, h2⟩ := h
 obtain ⟨k1, k2⟩ := k
 have za : (0 : Rat) ≤ (a : Rat) := Rat.intCast_le_intCast.2 ha
 have za' : (0 : Rat) ≤ (a' : Rat) := Rat.intCast_le_intCast.2 ha'
 have m1 := mulm h1 k1 za za'
 have m2 := mulm h2 k2 (Rat.le_trans za h1) (Rat.le_trans za' k1)
 rw [← Rat.intCast_mul] at m1 m2
 have r1 := fl_le hU m1
 have r2 := le_ce hU m2
 have e : x * (U : Rat) * (y * (U : Rat)) / (U : Rat) = x * y * (U : Rat) := by
  have := castI_pos hU
  rw [Rat.div_def]
  have e2 : (U : Rat) * (U : Rat)⁻¹ = 1 := Rat.mul_inv_cancel _ (by grind)
  grind
 rw [e] at r1 r2
 exact ⟨r1, r2⟩
theorem Enc.lo_le {c : Int} (h : Enc U a b x) (hx : x * (U : Rat) ≤ (c : Rat)) : a ≤ c := Rat.intCast_le_intCast.1 (Rat.le_trans h.1 hx)
theorem Enc.le_hi {c : Int} (h : Enc U a b x) (hx : (c : Rat) ≤ x * (U : Rat)) : c ≤ b := Rat.intCast_le_intCast.1 (Rat.le_trans hx h.2)
theorem Enc.le (h : Enc U a b x) : a ≤ b := Rat.intCast_le_intCast.1 (Rat.le_trans h.1 h.2)
theorem Enc.nonneg (h : Enc U a b x) (hx : 0 ≤ x) (hU : 0 < U) : 0 ≤ b := h.le_hi (c := 0) (Rat.mul_nonneg hx (Rat.le_of_lt (castI_pos hU)))
theorem Enc.one : Enc U U U 1 := by unfold Enc; rw [Rat.one_mul]; exact ⟨Rat.le_refl, Rat.le_refl⟩
end
theorem fl_nn {a d : Int} (ha : 0 ≤ a) (hd : 0 < d) : 0 ≤ a / d := Int.ediv_nonneg ha xq
theorem cd_le {b d c : Int} (hd : 0 < d) (h : b ≤ c * d) : cdiv b d ≤ c := by
 have h1 := (cd_mul (b := b) hd).2
 have h2 : cdiv b d * d < (c + 1) * d := by rw [Int.add_mul]; omega
 have := Int.lt_of_mul_lt_mul_right h2 xq
 omega
theorem cd_ge {b d c : Int} (hd : 0 < d) (h : c * d < b) : c + 1 ≤ cdiv b d := by
 have h1 := (cd_mul (b := b) hd).1
 have h2 : c * d < cdiv b d * d := by omega
 have := Int.lt_of_mul_lt_mul_right h2 xq
 omega
theorem cd_self {b d : Int} (hb : 0 ≤ b) (hd : 0 < d) : cdiv b d ≤ b := cd_le hd (by
 have := Int.mul_le_mul_of_nonneg_left (show 1 ≤ d by omega) hb; omega)
theorem cd_half {b d : Int} (hb : 2 ≤ b) (hd : 3 ≤ d) : 2 * cdiv b d ≤ b := by
 have h1 := cd_mul (b := b) (show 0 < d by omega)
 rcases Int.lt_or_le b (2 * cdiv b d) with h | h
 ·exfalso
  have h2 : (b + 1) * d ≤ 2 * cdiv b d * d := Int.mul_le_mul_of_nonneg_right xq xq
  have e : 2 * cdiv b d * d = 2 * (cdiv b d * d) := Int.mul_assoc ..
  rw [Int.add_mul, Int.one_mul, e] at h2
  have h3 : b * 3 ≤ b * d := Int.mul_le_mul_of_nonneg_left hd xq
  have h4 : (b - 2) * 3 ≤ (b - 2) * d := Int.mul_le_mul_of_nonneg_left hd xq
  rw [Int.sub_mul, Int.sub_mul] at h4
  omega
 ·exact h
theorem w3 {a b d : Int} (h : b - a ≤ 3) (hd : 0 < d) : cdiv b d - a / d ≤ 3 := by
 have h1 := cd_width (a := a) (b := b) hd
 rcases Int.lt_or_le 3 (cdiv b d - a / d) with h2 | h2
 ·have h3 := Int.mul_le_mul_of_nonneg_right (show 4 ≤ cdiv b d - a / d by omega) (show 0 ≤ d by omega)
  omega
 ·exact h2
end Nt
end Go.Proofs.YtbolmkfphieogaaGreat
namespace Go.Proofs.YtbolmkfphieogaaGreat
set_option linter.unusedVariables false
namespace Nt
def u2 (w : Nat) : Int := ((2 ^ w : Nat) : Int)
theorem u2_pos (w : Nat) : 0 < u2 w := by
 have := Nat.pow_pos (n := w) (show 0 < 2 by decide)
 unfold u2; omega
theorem u2_add (a b : Nat) : u2 (a + b) = u2 a * u2 b := by unfold u2; rw [Nat.pow_add]; exact Int.natCast_mul _ _
theorem u2_mono {a b : Nat} (h : a ≤ b) : u2 a ≤ u2 b := Int.ofNat_le.2 (Nat.pow_le_pow_right xw h)
theorem u2_le_iff {a b : Nat} (h : u2 a ≤ u2 b) : a ≤ b := (Nat.pow_le_pow_iff_right xw).1 (Int.ofNat_le.1 h)
theorem lin8 : ∀ w : Nat, 16 ≤ w → 8 * (128 * (w : Int) + 800) ≤ u2 w := by
 intro w hw
 obtain ⟨k, rfl⟩ : ∃ k, w = 16 + k := ⟨w - 16, by omega⟩
 induction k with
 | zero => decide +kernel
 | succ k ih =>
  have h1 := ih xq
  have h2 : u2 (16 + (k + 1)) = u2 (16 + k) * 2 := u2_add (16 + k) 1
  rw [h2]; omega
structure AtI (n w j : Nat) (pl ph sl sh : Int) : Prop where
 p : Enc (u2 w) pl ph (atP n j)
 s : Enc (u2 w) sl sh (alt (atT n) (j + 1))
 p0 : 0 ≤ pl
 p1 : 1 ≤ ph
 pw : ph - pl ≤ 3
 sw : sh - sl ≤ 3 * ((j : Int) + 1)
 fall : ph * u2 j ≤ u2 w
def AtR (n w : Nat) (lo hi : Int) : Prop := (∃ N : Nat, ∀ m, N ≤ m → Enc (u2 w) lo hi (alt (atT n) m)) ∧ hi - lo ≤ 5 * (w : Int) + 8
theorem AtI.start {n w : Nat} (hn : 0 < n) : AtI n w 0 (u2 w / (n : Int)) (cdiv (u2 w) (n : Int)) (u2 w / (n : Int)) (cdiv (u2 w) (n : Int)) := by
 have hn' : (0 : Int) < (n : Int) := by omega
 have hU := u2_pos w
 have h1 : Enc (u2 w) (u2 w / (n : Int)) (cdiv (u2 w) (n : Int)) (atP n 0) := Enc.one.over hn'
 have h2 : alt (atT n) (0 + 1) = atP n 0 := by
  show 0 + (1 : Rat) * (atP n 0 / (((2 * 0 + 1 : Nat)) : Rat)) = _
  have e : (((2 * 0 + 1 : Nat)) : Rat) = 1 := rfl
  rw [e]; grind
 have h3 := w3 (a := u2 w) (b := u2 w) (d := (n : Int)) xq hn'
 refine ⟨h1, by rw [h2]; exact h1, fl_nn xq hn', cd_ge (c := 0) hn' xq, h3, by omega, ?_⟩
 have : u2 0 = 1 := rfl
 rw [this, Int.mul_one]
 exact cd_self xq hn'
section
variable {n w j : Nat} {pl ph sl sh : Int}
theorem AtI.jw (h : AtI n w j pl ph sl sh) : j ≤ w := by
 refine u2_le_iff (Int.le_trans ?_ h.fall)
 have := Int.mul_le_mul_of_nonneg_right h.p1 (Int.le_of_lt (u2_pos j))
 omega
theorem AtI.power (h : AtI n w j pl ph sl sh) (hn : 0 < n) : Enc (u2 w) (pl / ((n * n : Nat) : Int)) (cdiv ph ((n * n : Nat) : Int)) (atP n (j + 1)) := h.p.over (by have := Nat.mul_pos hn hn; omega)
theorem AtI.term (h : AtI n w j pl ph sl sh) (hn : 0 < n) : Enc (u2 w) (pl / ((n * n : Nat) : Int) / ((2 * j + 3 : Nat) : Int)) (cdiv (cdiv ph ((n * n : Nat) : Int)) ((2 * j + 3 : Nat) : Int)) (atT n (j + 1)) :=
 (h.power hn).over (d := ((2 * j + 3 : Nat) : Int)) xq
theorem AtI.pw' (h : AtI n w j pl ph sl sh) (hn : 0 < n) : cdiv ph ((n * n : Nat) : Int) - pl / ((n * n : Nat) : Int) ≤ 3 := w3 h.pw (by have := Nat.mul_pos hn hn; omega)
theorem AtI.tw (h : AtI n w j pl ph sl sh) (hn : 0 < n) : cdiv (cdiv ph ((n * n : Nat) : Int)) ((2 * j + 3 : Nat) : Int) - pl / ((n * n : Nat) : Int) / ((2 * j + 3 : Nat) : Int) ≤ 3 := w3 (h.pw' hn) xq
theorem AtI.sub (h : AtI n w j pl ph sl sh) (hn : 0 < n) (hj : j % 2 = 0) : Enc (u2 w) (sl - cdiv (cdiv ph ((n * n : Nat) : Int)) ((2 * j + 3 : Nat) : Int)) (sh - pl / ((n * n : Nat) : Int) / ((2 * j + 3 : Nat) : Int)) (alt (atT n) (j + 1 + 1)) := by
 have h1 := h.s.sub (h.term hn)
 have e : alt (atT n) (j + 1 + 1) = alt (atT n) (j + 1) - atT n (j + 1) := by
  rw [alt_s]; unfold sgn; rw [if_neg xq]; grind
 rw [e]; exact h1
theorem AtI.add (h : AtI n w j pl ph sl sh) (hn : 0 < n) (hj : ¬ j % 2 = 0) : Enc (u2 w) (sl + pl / ((n * n : Nat) : Int) / ((2 * j + 3 : Nat) : Int)) (sh + cdiv (cdiv ph ((n * n : Nat) : Int)) ((2 * j + 3 : Nat) : Int)) (alt (atT n) (j + 1 + 1)) := by
 have h1 := h.s.add (h.term hn)
 have e : alt (atT n) (j + 1 + 1) = alt (atT n) (j + 1) + atT n (j + 1) := by
  rw [alt_s]; unfold sgn; rw [if_pos xq]; grind
 rw [e]; exact h1
theorem AtI.go {sl' sh' : Int} (h : AtI n w j pl ph sl sh) (hn : 2 ≤ n) (ht : 2 ≤ cdiv (cdiv ph ((n * n : Nat) : Int)) ((2 * j + 3 : Nat) : Int)) (hs : Enc (u2 w) sl' sh' (alt (atT n) (j + 1 + 1))) (hw : sh' - sl' ≤ sh - sl + 3) :
  AtI n w (j + 1) (pl / ((n * n : Nat) : Int)) (cdiv ph ((n * n : Nat) : Int)) sl' sh' ∧ cdiv ph ((n * n : Nat) : Int) < ph := by
 have hnn : 4 ≤ n * n := Nat.mul_le_mul hn hn
 have h0 := h.p1
 have h1 : 1 ≤ cdiv ph ((n * n : Nat) : Int) := cd_ge (c := 0) xq xq
 have h2 := cd_self (b := cdiv ph ((n * n : Nat) : Int)) (d := ((2 * j + 3 : Nat) : Int)) xq xq
 have h3 := cd_self (b := ph) (d := ((n * n : Nat) : Int)) xq xq
 have h4 := cd_half (b := ph) (d := ((n * n : Nat) : Int)) xq xq
 refine ⟨⟨h.power xq, hs, fl_nn h.p0 xq, h1, h.pw' xq, by have := h.sw; omega, ?_⟩, by omega⟩
 have h5 : u2 (j + 1) = u2 j * 2 := u2_add j 1
 have h6 := Int.mul_le_mul_of_nonneg_right h4 (Int.le_of_lt (u2_pos j))
 have h7 := h.fall
 rw [h5]
 have e : cdiv ph ((n * n : Nat) : Int) * (u2 j * 2) = 2 * cdiv ph ((n * n : Nat) : Int) * u2 j := by grind
 rw [e]; omega
theorem AtI.out {sl' sh' : Int} (h : AtI n w j pl ph sl sh) (hn : 0 < n) (ht : cdiv (cdiv ph ((n * n : Nat) : Int)) ((2 * j + 3 : Nat) : Int) ≤ 1) (hs : Enc (u2 w) sl' sh' (alt (atT n) (j + 1 + 1))) (hw : sh' - sl' ≤ sh - sl + 3) : AtR n w (sl' - 1) (sh' + 1) := by
 refine ⟨⟨j + 1 + 1, fun m hm => ?_⟩, by have := h.jw; have := h.sw; omega⟩
 have h1 := alt_near (j0 := 0) (atT_nn hn) (fun j _ => atT_le hn j) (Nat.zero_le _) hm
 refine hs.near h1.1 h1.2 ?_ (u2_pos w)
 have h2 := (h.term hn).2
 have h3 := Rat.mul_le_mul_of_nonneg_right (atT_le hn (j + 1)) (Rat.le_of_lt (castI_pos (u2_pos w)))
 have h4 : ((cdiv (cdiv ph ((n * n : Nat) : Int)) ((2 * j + 3 : Nat) : Int) : Int) : Rat) ≤ ((1 : Int) : Rat) := Rat.intCast_le_intCast.2 ht
 have e : ((1 : Int) : Rat) = 1 := rfl
 rw [e] at h4
 exact Rat.le_trans h3 (Rat.le_trans h2 h4)
theorem AtI.bd (h : AtI n w j pl ph sl sh) (hn : 0 < n) : ph ≤ u2 w ∧ -(3 * ((w : Int) + 1)) ≤ sl ∧ sl ≤ u2 w ∧ 0 ≤ sh ∧ sh ≤ u2 w + 3 * ((w : Int) + 1) := by
 have h1 := atT_b (n := n) hn (m := j + 1) xq
 have h2 := atT_le hn 0
 have hU := castI_pos (u2_pos w)
 have h3 : alt (atT n) (j + 1) ≤ 1 := by
  refine Rat.le_trans h1.2 ?_
  have e : atT n 0 = atP n 0 / ((2 * 0 + 1 : Nat) : Rat) := rfl
  rw [e]
  refine Rat.le_trans (div_le_self (atP_nn hn 0) (cast_one xq)) ?_
  show 1 / (n : Rat) ≤ 1
  exact div_le_self xw (cast_one hn)
 have h4 : alt (atT n) (j + 1) * (u2 w : Rat) ≤ (u2 w : Rat) := by
  have := Rat.mul_le_mul_of_nonneg_right h3 (Rat.le_of_lt hU)
  rwa [Rat.one_mul] at this
 have h5 := h.s.lo_le h4
 have h6 := h.s.nonneg (by grind) (u2_pos w)
 have h7 := h.sw
 have h8 := h.jw
 have h9 := h.fall
 have h10 := Int.mul_le_mul_of_nonneg_left (show 1 ≤ u2 j by have := u2_pos j; omega) (show 0 ≤ ph by have := h.p1; omega)
 refine ⟨by omega, by omega, h5, h6, by omega⟩
end
def PiR (w : Nat) (lo hi : Int) : Prop := (∃ N : Nat, ∀ m, N ≤ m → Enc (u2 w) lo hi (piN m)) ∧ hi - lo ≤ 128 * (w : Int) + 400
theorem PiR.of {w : Nat} {a b c d : Int} (h : AtR 5 w a b) (k : AtR 239 w c d) : PiR w (a * 16 - d * 4) (b * 16 - c * 4) := by
 obtain ⟨⟨N, h1⟩, h2⟩ := h
 obtain ⟨⟨M, k1⟩, k2⟩ := k
 refine ⟨⟨max N M, fun m hm => ?_⟩, by omega⟩
 have e := ((h1 m xq).times (n := 16)).sub ((k1 m xq).times (n := 4))
 have e2 : piN m = alt (atT 5) m * ((16 : Nat) : Rat) - alt (atT 239) m * ((4 : Nat) : Rat) := by
  unfold piN
  rw [Rat.mul_comm, Rat.mul_comm 4]; rfl
 rw [e2]; exact e
theorem PiR.bd {w : Nat} {a b : Int} (h : PiR w a b) (hw : 16 ≤ w) : 0 ≤ a ∧ b ≤ 4 * u2 w ∧ a ≤ b ∧ 1 ≤ b := by
 obtain ⟨⟨N, h1⟩, h2⟩ := h
 have h3 := h1 (N + 1) xq
 have h4 := piN_b (m := N + 1) xq
 have hU := castI_pos (u2_pos w)
 have l8 := lin8 w hw
 have h5 : 3 * u2 w ≤ b := h3.le_hi (by
  rw [Rat.intCast_mul]
  refine Rat.mul_le_mul_of_nonneg_right (Rat.le_trans ?_ h4.1) (Rat.le_of_lt hU)
  decide +kernel)
 have h6 : 5 * a ≤ 16 * u2 w := by
  have h7 := Rat.mul_le_mul_of_nonneg_right h4.2 (Rat.le_of_lt hU)
  have h8 := h3.1
  refine Rat.intCast_le_intCast.1 ?_
  rw [Rat.intCast_mul, Rat.intCast_mul]
  have e5 : ((5 : Int) : Rat) = 5 := rfl
  have e16 : ((16 : Int) : Rat) = 16 := rfl
  rw [e5, e16]
  grind
 have := h3.le
 have := u2_pos w
 omega
end Nt
end Go.Proofs.YtbolmkfphieogaaGreat
namespace Go.Proofs.YtbolmkfphieogaaGreat
set_option linter.unusedVariables false
namespace Nt
theorem cdw {a b d W : Int} (hd : 0 < d) (h : b - a ≤ W * d) : cdiv b d - a / d ≤ W + 1 := by
 have h1 := cd_width (a := a) (b := b) hd
 rcases Int.lt_or_le (W + 1) (cdiv b d - a / d) with h2 | h2
 ·have h3 := Int.mul_le_mul_of_nonneg_right (show W + 2 ≤ cdiv b d - a / d by omega) (show 0 ≤ d by omega)
  rw [Int.add_mul] at h3
  omega
 ·exact h2
theorem prod_width {U a b c d W V A C : Int} (hU : 0 < U) (ha : 0 ≤ a) (hc : 0 ≤ c) (h1 : b - a ≤ W) (h2 : d - c ≤ V) (h3 : a ≤ A * U) (h4 : d ≤ C * U) (hA : 0 ≤ A) (hC : 0 ≤ C) (hW : 0 ≤ W) (hV : 0 ≤ V) (hab : a ≤ b) (hcd : c ≤ d) : cdiv (b * d) U - a * c / U ≤ W * C + V * A + 1 := by
 refine cdw hU ?_
 have e : b * d - a * c = (b - a) * d + (d - c) * a := by grind
 have k1 : (b - a) * d ≤ W * (C * U) := Int.le_trans (Int.mul_le_mul_of_nonneg_right h1 xq) (Int.mul_le_mul_of_nonneg_left h4 hW)
 have k2 : (d - c) * a ≤ V * (A * U) := Int.le_trans (Int.mul_le_mul_of_nonneg_right h2 ha) (Int.mul_le_mul_of_nonneg_left h3 hV)
 have e2 : (W * C + V * A) * U = W * (C * U) + V * (A * U) := by grind
 rw [e, e2]; omega
def CsY (p q w : Nat) (lo hi : Int) : Prop := (∃ N : Nat, ∀ m, N ≤ m → Enc (u2 w) lo hi (csY p q m)) ∧ hi - lo ≤ 128 * (w : Int) + 402 ∧ 0 ≤ lo ∧ hi ≤ 2 * u2 w ∧ lo ≤ hi ∧ 1 ≤ hi
theorem csY_b {p q m : Nat} (hq : 0 < q) (hp : 2 * p ≤ q) (hm : 1 ≤ m) : 0 ≤ csY p q m ∧ csY p q m ≤ 8 / 5 := by
 have h1 := piN_b hm
 have hq' := cast_pos hq
 have hp0 : (0 : Rat) ≤ (p : Rat) := Rat.natCast_le_natCast.2 (Nat.zero_le p)
 have hpi0 : 0 ≤ piN m := Rat.le_trans (by decide +kernel) h1.1
 unfold csY
 refine ⟨div_nn (Rat.mul_nonneg hpi0 hp0) hq', dv_le hq' ?_⟩
 have h2 : ((2 * p : Nat) : Rat) ≤ (q : Rat) := Rat.natCast_le_natCast.2 hp
 rw [Rat.natCast_mul] at h2
 have e2 : ((2 : Nat) : Rat) = 2 := rfl
 rw [e2] at h2
 have h3 := Rat.mul_le_mul_of_nonneg_right h1.2 hp0
 have h4 := Rat.mul_le_mul_of_nonneg_left (c := (8 / 5 : Rat)) h2 (by decide +kernel)
 have e3 : (8 / 5 : Rat) * (2 * (p : Rat)) = 16 / 5 * (p : Rat) := by grind
 rw [e3] at h4
 exact Rat.le_trans h3 h4
theorem CsY.of {p q w : Nat} {a b : Int} (h : PiR w a b) (hw : 16 ≤ w) (hq : 0 < q) (hp : 2 * p ≤ q) (hp1 : 1 ≤ p) : CsY p q w (a * (p : Int) / (q : Int)) (cdiv (b * (p : Int)) (q : Int)) := by
 obtain ⟨h0, h4, hab, hb1⟩ := h.bd hw
 obtain ⟨⟨N, h1⟩, h2⟩ := h
 have l8 := lin8 w hw
 have hU := u2_pos w
 have E : ∀ m, N ≤ m → Enc (u2 w) (a * (p : Int) / (q : Int)) (cdiv (b * (p : Int)) (q : Int)) (csY p q m) := fun m hm => ((h1 m hm).times (n := p)).over (d := (q : Int)) xq
 have hwd : cdiv (b * (p : Int)) (q : Int) - a * (p : Int) / (q : Int) ≤ 128 * (w : Int) + 402 := by
  have := cdw (a := a * (p : Int)) (b := b * (p : Int)) (d := (q : Int)) (W := 128 * (w : Int) + 400) xq (by
   rw [← Int.sub_mul]
   exact Int.le_trans (Int.mul_le_mul_of_nonneg_right h2 xq) (Int.mul_le_mul_of_nonneg_left (show (p : Int) ≤ (q : Int) by omega) xq))
  omega
 have hlo : 0 ≤ a * (p : Int) / (q : Int) := fl_nn (Int.mul_nonneg h0 xq) xq
 have e1 := E (N + 1) xq
 have h5 : 5 * (a * (p : Int) / (q : Int)) ≤ 8 * u2 w := by
  have h6 := csY_b (m := N + 1) hq hp xq
  have h7 := Rat.mul_le_mul_of_nonneg_right h6.2 (Rat.le_of_lt (castI_pos hU))
  have h8 := e1.1
  refine Rat.intCast_le_intCast.1 ?_
  rw [Rat.intCast_mul, Rat.intCast_mul]
  have e5 : ((5 : Int) : Rat) = 5 := rfl
  have e16 : ((8 : Int) : Rat) = 8 := rfl
  rw [e5, e16]
  grind
 have hbp : 1 ≤ b * (p : Int) := by
  have := Int.mul_le_mul hb1 (show (1 : Int) ≤ (p : Int) by omega) xw xq
  omega
 exact ⟨⟨N, E⟩, hwd, hlo, by omega, e1.le, cd_ge (c := 0) xq xq⟩
def CsQ (p q w : Nat) (lo hi : Int) : Prop := (∃ N : Nat, ∀ m, N ≤ m → Enc (u2 w) lo hi (csY p q m * csY p q m)) ∧ hi - lo ≤ 512 * (w : Int) + 1609 ∧ 0 ≤ lo ∧ hi ≤ 4 * u2 w ∧ lo ≤ hi ∧ 1 ≤ hi
theorem CsQ.of {p q w : Nat} {a b : Int} (h : CsY p q w a b) : CsQ p q w (a * a / u2 w) (cdiv (b * b) (u2 w)) := by
 obtain ⟨⟨N, h1⟩, h2, h3, h4, h5, h51⟩ := h
 have hU := u2_pos w
 have E : ∀ m, N ≤ m → Enc (u2 w) (a * a / u2 w) (cdiv (b * b) (u2 w)) (csY p q m * csY p q m) := fun m hm => (h1 m hm).prod (h1 m hm) h3 h3 hU
 refine ⟨⟨N, E⟩, ?_, fl_nn (Int.mul_nonneg h3 h3) hU, cd_le hU ?_, (E N (Nat.le_refl _)).le, cd_ge (c := 0) hU (by have := Int.mul_le_mul h51 h51 xw xq; omega)⟩
 ·have := prod_width (A := 2) (C := 2) hU h3 h3 h2 h2 xq h4 xq xq xq xq h5 h5
  omega
 ·have h6 := Int.mul_le_mul h4 h4 xq xq
  have e : 2 * u2 w * (2 * u2 w) = 4 * u2 w * u2 w := by grind
  rw [e] at h6; exact h6
def csW (w : Nat) : Int := 512 * (w : Int) + 1611
structure CsT (p q w j : Nat) (tl th : Int) : Prop where
 e : ∃ N : Nat, ∀ m, N ≤ m → Enc (u2 w) tl th (csT (csY p q m) j)
 t0 : 0 ≤ tl
 t1 : 1 ≤ th
 tt : tl ≤ th
 t2 : th ≤ 2 * u2 w
 tw : th - tl ≤ csW w
 t00 : j = 0 → tl = th ∧ th = u2 w
 fall : th * u2 j ≤ 4 * u2 w
theorem CsT.start {p q w : Nat} : CsT p q w 0 (u2 w) (u2 w) := by
 have hU := u2_pos w
 refine ⟨⟨0, fun m _ => Enc.one⟩, by omega, by omega, by omega, by omega, ?_, fun _ => ⟨rfl, rfl⟩, ?_⟩
 ·unfold csW; omega
 ·show u2 w * 1 ≤ _; omega
def coD (j : Nat) : Int := (((2 * j + 2) * (2 * j + 1) : Nat) : Int)
theorem coD_pos (j : Nat) : 2 ≤ coD j := by
 have := Nat.mul_le_mul (show 2 ≤ 2 * j + 2 by omega) (show 1 ≤ 2 * j + 1 by omega)
 unfold coD; omega
theorem coD_12 {j : Nat} (hj : 1 ≤ j) : 12 ≤ coD j := by
 have := Nat.mul_le_mul (show 4 ≤ 2 * j + 2 by omega) (show 3 ≤ 2 * j + 1 by omega)
 unfold coD; omega
def csL (w j : Nat) (tl ql : Int) : Int := tl * ql / u2 w / coD j
def csH (w j : Nat) (th qh : Int) : Int := cdiv (cdiv (th * qh) (u2 w)) (coD j)
section
variable {p q w j : Nat} {tl th ql qh : Int}
theorem CsT.jw (h : CsT p q w j tl th) : j ≤ w + 2 := by
 refine u2_le_iff (Int.le_trans ?_ (Int.le_trans h.fall (by rw [u2_add w 2]; show 4 * u2 w ≤ u2 w * 4; omega)))
 have := Int.mul_le_mul_of_nonneg_right h.t1 (Int.le_of_lt (u2_pos j))
 omega
theorem CsT.term (h : CsT p q w j tl th) (hq : CsQ p q w ql qh) : ∃ N : Nat, ∀ m, N ≤ m → Enc (u2 w) (csL w j tl ql) (csH w j th qh) (csT (csY p q m) (j + 1)) := by
 obtain ⟨N, h1⟩ := h.e
 obtain ⟨⟨M, k1⟩, k2, k3, k4, k5, k6⟩ := hq
 exact ⟨max N M, fun m hm => (((h1 m xq).prod (k1 m xq) h.t0 k3 (u2_pos w)).over (by have := coD_pos j; omega))⟩
theorem CsT.next (h : CsT p q w j tl th) (hq : CsQ p q w ql qh) (ht : j ≤ 1 ∨ 2 ≤ th) : CsT p q w (j + 1) (csL w j tl ql) (csH w j th qh) ∧ (1 ≤ j → csH w j th qh ≤ th) ∧ (1 ≤ j → 2 ≤ th → 2 * csH w j th qh ≤ th) := by
 have hE := h.term hq
 have hU := u2_pos w
 have hd := coD_pos j
 obtain ⟨N, h1⟩ := id hE
 have hle := (h1 N (Nat.le_refl _)).le
 obtain ⟨_, k2, k3, k4, k5, k6⟩ := hq
 have t0 := h.t0
 have t1 := h.t1
 have t2 := h.t2
 have tt := h.tt
 have tw := h.tw
 have hfl := h.fall
 have g0 : 0 ≤ csL w j tl ql := fl_nn (fl_nn (Int.mul_nonneg t0 k3) hU) xq
 have g1 : cdiv (th * qh) (u2 w) ≤ 4 * th := cd_le hU (by
  have := Int.mul_le_mul_of_nonneg_left k4 (show 0 ≤ th by omega)
  have e : th * (4 * u2 w) = 4 * th * u2 w := by grind
  rw [e] at this; exact this)
 have g2 : csH w j th qh ≤ 2 * th := cd_le xq (by
  have := Int.mul_le_mul_of_nonneg_left hd (show 0 ≤ 2 * th by omega); omega)
 have g3 : 1 ≤ j → csH w j th qh ≤ cdiv th 3 := fun hj => cd_le xq (by
  have h5 := (cd_mul (b := th) (d := 3) xw).1
  have h6 := Int.mul_le_mul_of_nonneg_left (coD_12 hj) (show 0 ≤ cdiv th 3 by omega)
  omega)
 have g4 : cdiv th 3 ≤ th := cd_self xq xw
 have g5 : 1 ≤ th * qh := by
  have := Int.mul_le_mul t1 k6 xw xq
  omega
 have g6 : 1 ≤ cdiv (th * qh) (u2 w) := cd_ge (c := 0) hU xq
 have g7 : 1 ≤ csH w j th qh := cd_ge (c := 0) xq xq
 have g8 : 1 ≤ j → 2 ≤ th → 2 * csH w j th qh ≤ th := fun hj h2 => by
  have h3 := g3 hj
  have h4 := cd_half (b := th) (d := 3) h2 xw
  omega
 have g9 : 1 ≤ j → csH w j th qh ≤ th := fun hj => Int.le_trans (g3 hj) g4
 have g10 : csH w j th qh ≤ 2 * u2 w := by
  by_cases hj : j = 0
  ·rw [(h.t00 hj).2] at g2 ⊢
   exact g2
  ·have := g9 xq; omega
 refine ⟨⟨hE, g0, g7, hle, g10, ?_, by omega, ?_⟩, g9, g8⟩
 ·by_cases hj : j = 0
  ·obtain ⟨e1, e2⟩ := h.t00 hj
   have := prod_width (A := 1) (C := 4) (W := 0) (V := 512 * (w : Int) + 1609) hU t0 k3 xq k2 xq k4 xq xq xq xq tt k5
   have h9 := cdw (a := tl * ql / u2 w) (b := cdiv (th * qh) (u2 w)) (d := coD j) (W := 512 * (w : Int) + 1610) xq (by
    have := Int.mul_le_mul_of_nonneg_left (show 1 ≤ coD j by omega) (show 0 ≤ 512 * (w : Int) + 1610 by omega)
    omega)
   unfold csW csL csH; omega
  ·have hj1 : 1 ≤ j := by omega
   have hd12 := coD_12 hj1
   have := prod_width (A := 2) (C := 4) (W := csW w) (V := 512 * (w : Int) + 1609) hU t0 k3 tw k2 xq k4 xq xq (by unfold csW; omega) xq tt k5
   have h9 := cdw (a := tl * ql / u2 w) (b := cdiv (th * qh) (u2 w)) (d := coD j) (W := 512 * (w : Int) + 1610) xq (by
    have := Int.mul_le_mul_of_nonneg_left hd12 (show 0 ≤ 512 * (w : Int) + 1610 by omega)
    unfold csW at *
    omega)
   unfold csW csL csH; omega
 ·have e2 : u2 (j + 1) = u2 j * 2 := u2_add j 1
  rw [e2]
  have e : csH w j th qh * (u2 j * 2) = 2 * csH w j th qh * u2 j := by grind
  rw [e]
  by_cases hj : j = 0
  ·subst hj
   show 2 * csH w 0 th qh * 1 ≤ _
   omega
  ·by_cases h2 : 2 ≤ th
   ·have h4 := g8 xq h2
    exact Int.le_trans (Int.mul_le_mul_of_nonneg_right h4 (Int.le_of_lt (u2_pos j))) hfl
   ·have h4 := g9 xq
    obtain rfl : j = 1 := by omega
    show 2 * csH w 1 th qh * 2 ≤ _
    omega
end
structure CsI (p q w j : Nat) (tl th sl sh : Int) : Prop where
 c : CsT p q w j tl th
 s : ∃ N : Nat, ∀ m, N ≤ m → Enc (u2 w) sl sh (alt (csT (csY p q m)) (j + 1))
 sw : sh - sl ≤ csW w * (j : Int)
def CsR (p q w : Nat) (lo hi : Int) : Prop := (∃ N : Nat, ∀ m, N ≤ m → Enc (u2 w) lo hi (coN p q m)) ∧ hi - lo ≤ csW w * ((w : Int) + 4) + 2
theorem CsI.start {p q w : Nat} : CsI p q w 0 (u2 w) (u2 w) (u2 w) (u2 w) := by
 refine ⟨CsT.start, ⟨0, fun m _ => ?_⟩, by omega⟩
 have : alt (csT (csY p q m)) (0 + 1) = 1 := by show 0 + (1 : Rat) * 1 = 1; decide +kernel
 rw [this]; exact Enc.one
def csM (w j : Nat) (th : Int) : Nat := if j = 0 then (4 * u2 w).toNat else th.toNat
def CsS (w j : Nat) (tl th ql qh sl sh sl' sh' : Int) : Prop := j % 2 = 0 ∧ sl' = sl - csH w j th qh ∧ sh' = sh - csL w j tl ql ∨ ¬ j % 2 = 0 ∧ sl' = sl + csL w j tl ql ∧ sh' = sh + csH w j th qh
section
variable {p q w j : Nat} {tl th sl sh ql qh sl' sh' : Int}
theorem CsI.sum (h : CsI p q w j tl th sl sh) (hq : CsQ p q w ql qh) (hs : CsS w j tl th ql qh sl sh sl' sh') : (∃ N : Nat, ∀ m, N ≤ m → Enc (u2 w) sl' sh' (alt (csT (csY p q m)) (j + 1 + 1))) ∧ sh' - sl' = sh - sl + (csH w j th qh - csL w j tl ql) := by
 obtain ⟨N, h1⟩ := h.c.term hq
 obtain ⟨M, h2⟩ := h.s
 rcases hs with ⟨e, rfl, rfl⟩ | ⟨e, rfl, rfl⟩
 ·refine ⟨⟨max N M, fun m hm => ?_⟩, by omega⟩
  have e2 : alt (csT (csY p q m)) (j + 1 + 1) = alt (csT (csY p q m)) (j + 1) - csT (csY p q m) (j + 1) := by
   rw [alt_s]; unfold sgn; rw [if_neg xq]; grind
  rw [e2]; exact (h2 m xq).sub (h1 m xq)
 ·refine ⟨⟨max N M, fun m hm => ?_⟩, by omega⟩
  have e2 : alt (csT (csY p q m)) (j + 1 + 1) = alt (csT (csY p q m)) (j + 1) + csT (csY p q m) (j + 1) := by
   rw [alt_s]; unfold sgn; rw [if_pos xq]; grind
  rw [e2]; exact (h2 m xq).add (h1 m xq)
theorem CsI.go (h : CsI p q w j tl th sl sh) (hq : CsQ p q w ql qh) (ht : j = 0 ∨ 2 ≤ csH w j th qh) (hs : CsS w j tl th ql qh sl sh sl' sh') :
  CsI p q w (j + 1) (csL w j tl ql) (csH w j th qh) sl' sh' ∧ csM w (j + 1) (csH w j th qh) < csM w j th := by
 have hT : 1 ≤ j → csH w j th qh ≤ th := fun hj => (h.c.next hq (by
  rcases Int.lt_or_le th 2 with h2 | h2
  ·exact .inl (by
    have hd := coD_12 hj
    have hU := u2_pos w
    have t1 := h.c.t1
    have k4 := hq.2.2.2.1
    have k1 : csH w j th qh ≤ 1 := cd_le xq (by
     have : cdiv (th * qh) (u2 w) ≤ 4 := cd_le hU (by
      have e : th = 1 := by omega
      rw [e, Int.one_mul]; exact k4)
     omega)
    omega)
  ·exact .inr h2)).2.1 hj
 have hN := h.c.next hq (by
  by_cases hj : j = 0
  ·exact .inl xq
  ·have := hT xq; exact .inr xq)
 obtain ⟨S1, S2⟩ := h.sum hq hs
 have hsw := h.sw
 have hU := u2_pos w
 have htw := hN.1.tw
 have e : csW w * (((j + 1 : Nat)) : Int) = csW w * (j : Int) + csW w := by rw [Int.natCast_add, Int.mul_add]; simp
 refine ⟨⟨hN.1, S1, by rw [e]; omega⟩, ?_⟩
 have ht2 := hN.1.t2
 unfold csM
 rw [if_neg xq]
 by_cases hj : j = 0
 ·rw [if_pos hj]; omega
 ·rw [if_neg hj]
  have h4 := hN.2.2 xq (by have := hT xq; omega)
  omega
theorem cs_near {x : Nat → Rat} {m : Nat} {y : Rat} {j : Nat} (hy : 0 ≤ y ∧ y ≤ 8 / 5) (hj : 1 ≤ j) (hm : j ≤ m) : alt (csT y) j - csT y j ≤ alt (csT y) m ∧ alt (csT y) m ≤ alt (csT y) j + csT y j := by
 have hyy : y * y ≤ 12 := Rat.le_trans (mulm hy.2 hy.2 hy.1 hy.1) (by decide +kernel)
 exact alt_near (j0 := 1) (csT_nn _) (csT_le hyy) hj hm
theorem CsI.out (h : CsI p q w j tl th sl sh) (hq : CsQ p q w ql qh) (h0 : 0 < q) (hp : 2 * p ≤ q) (hj : 1 ≤ j) (ht : csH w j th qh ≤ 1) (hs : CsS w j tl th ql qh sl sh sl' sh') : CsR p q w (sl' - 1) (sh' + 1) := by
 obtain ⟨S1, S2⟩ := h.sum hq hs
 obtain ⟨M, h2⟩ := S1
 obtain ⟨N, h1⟩ := h.c.term hq
 have hU := u2_pos w
 have hL : 0 ≤ csL w j tl ql := fl_nn (fl_nn (Int.mul_nonneg h.c.t0 hq.2.2.1) hU) (by have := coD_pos j; omega)
 refine ⟨⟨max (max N M) (j + 2), fun m hm => ?_⟩, ?_⟩
 ·have hy := csY_b (m := m) h0 hp xq
  have hyy : csY p q m * csY p q m ≤ 12 := Rat.le_trans (mulm hy.2 hy.2 hy.1 hy.1) (by decide +kernel)
  have h3 := cs_near (x := fun _ => 0) (m := m) (j := j + 1 + 1) hy xq xq
  have h4 := csT_le hyy (j + 1) xq
  refine (h2 m xq).near h3.1 h3.2 ?_ hU
  have h5 := Rat.mul_le_mul_of_nonneg_right h4 (Rat.le_of_lt (castI_pos hU))
  have h6 : ((csH w j th qh : Int) : Rat) ≤ ((1 : Int) : Rat) := Rat.intCast_le_intCast.2 ht
  have e : ((1 : Int) : Rat) = 1 := rfl
  rw [e] at h6
  exact Rat.le_trans h5 (Rat.le_trans (h1 m xq).2 h6)
 ·have h6 := h.sw
  have h7 := h.c.jw
  have h8 := Int.mul_le_mul_of_nonneg_left (show (j : Int) + 1 ≤ (w : Int) + 4 by omega) (show 0 ≤ csW w by unfold csW; omega)
  rw [Int.mul_add] at h8
  have : 1 ≤ csW w := by unfold csW; omega
  omega
theorem cs_bd {N : Nat} {m : Nat} (h0 : 0 < q) (hp : 2 * p ≤ q) (hm : 1 ≤ m) (hj : 1 ≤ j) (h2 : Enc (u2 w) sl sh (alt (csT (csY p q m)) j)) : sl ≤ 3 * u2 w ∧ -(3 * u2 w) ≤ sh := by
 have hy := csY_b (m := m) h0 hp hm
 have h3 := cs_near (x := fun _ => 0) (j := 1) (m := j) hy xq xq
 have hyy := mulm hy.2 hy.2 hy.1 hy.1
 have e1 : alt (csT (csY p q m)) 1 = 1 := by show 0 + (1 : Rat) * 1 = 1; decide +kernel
 have h4 : csT (csY p q m) 1 ≤ 2 := by
  show 1 * (csY p q m * csY p q m) / (((2 * 0 + 2) * (2 * 0 + 1) : Nat) : Rat) ≤ 2
  refine dv_le (cast_pos xw) ?_
  rw [Rat.one_mul]
  exact Rat.le_trans hyy (by decide +kernel)
 rw [e1] at h3
 have hU := castI_pos (u2_pos w)
 have h5 : alt (csT (csY p q m)) j * (u2 w : Rat) ≤ ((3 * u2 w : Int) : Rat) := by
  rw [Rat.intCast_mul]
  refine Rat.mul_le_mul_of_nonneg_right ?_ (Rat.le_of_lt hU)
  have e : ((3 : Int) : Rat) = 3 := rfl
  rw [e]; grind
 have h6 : ((-(3 * u2 w) : Int) : Rat) ≤ alt (csT (csY p q m)) j * (u2 w : Rat) := by
  have e : -(3 * u2 w) = (-3) * u2 w := by omega
  rw [e, Rat.intCast_mul]
  refine Rat.mul_le_mul_of_nonneg_right ?_ (Rat.le_of_lt hU)
  have e : ((-3 : Int) : Rat) = -3 := rfl
  rw [e]; grind
 exact ⟨h2.lo_le h5, h2.le_hi h6⟩
theorem CsI.bd (h : CsI p q w j tl th sl sh) (h0 : 0 < q) (hp : 2 * p ≤ q) : -(csW w * ((w : Int) + 2)) - 3 * u2 w ≤ sl ∧ sl ≤ 3 * u2 w ∧ -(3 * u2 w) ≤ sh ∧ sh ≤ 3 * u2 w + csW w * ((w : Int) + 2) := by
 obtain ⟨N, h1⟩ := h.s
 have h2 := cs_bd (N := N) (m := N + 1) h0 hp xq xq (h1 (N + 1) xq)
 have h9 := h.sw
 have h10 := h.c.jw
 have h11 := Int.mul_le_mul_of_nonneg_left (show (j : Int) ≤ (w : Int) + 2 by omega) (show 0 ≤ csW w by unfold csW; omega)
 omega
end
def FlO (X : Nat → Rat) (b : Nat) (z : Int) : Prop := ∃ N : Nat, ∀ m, N ≤ m → (z : Rat) ≤ X m * (u2 b : Rat) ∧ X m * (u2 b : Rat) < ((z + 1 : Int) : Rat)
theorem FlO.uniq {X : Nat → Rat} {b : Nat} {y z : Int} (h : FlO X b y) (k : FlO X b z) : y = z := by
 obtain ⟨N, h⟩ := h
 obtain ⟨M, k⟩ := k
 have h1 := h (max N M) xq
 have k1 := k (max N M) xq
 have a := Rat.intCast_lt_intCast.1 (Std.lt_of_le_of_lt h1.1 k1.2)
 have c := Rat.intCast_lt_intCast.1 (Std.lt_of_le_of_lt k1.1 h1.2)
 omega
theorem FlO.of {X : Nat → Rat} {b w : Nat} {lo hi z : Int} (h : ∃ N : Nat, ∀ m, N ≤ m → Enc (u2 w) lo hi (X m)) (hb : b ≤ w) (h1 : lo / u2 (w - b) = z) (h2 : hi / u2 (w - b) = z) : FlO X b z := by
 obtain ⟨N, h⟩ := h
 refine ⟨N, fun m hm => ?_⟩
 have h3 := h m hm
 have hp := u2_pos (w - b)
 have e : u2 w = u2 b * u2 (w - b) := by rw [← u2_add, show b + (w - b) = w by omega]
 have k1 := (fl_mul (a := lo) hp).1
 have k2 := Int.lt_ediv_add_one_mul_self hi hp
 rw [h1] at k1
 rw [h2] at k2
 have r1 := Rat.intCast_le_intCast.2 k1
 have r2 := Rat.intCast_lt_intCast.2 k2
 rw [Rat.intCast_mul] at r1 r2
 obtain ⟨h4, h5⟩ := h3
 rw [e, Rat.intCast_mul, ← Rat.mul_assoc] at h4 h5
 refine ⟨Rat.le_of_mul_le_mul_right (Rat.le_trans r1 h4) (castI_pos hp), ?_⟩
 by_cases h6 : X m * (u2 b : Rat) < ((z + 1 : Int) : Rat)
 ·exact h6
 ·have h7 := Rat.mul_le_mul_of_nonneg_right (Rat.not_lt.1 h6) (Rat.le_of_lt (castI_pos hp))
  exact absurd (Std.lt_of_le_of_lt (Rat.le_trans h7 h5) r2) (by grind)
def Gap (X : Nat → Rat) (b g : Nat) : Prop := b ≤ g ∧ ∃ (z : Int) (N : Nat), ∀ m, N ≤ m → ((z * u2 (g - b) + 1 : Int) : Rat) ≤ X m * (u2 g : Rat) ∧ X m * (u2 g : Rat) ≤ ((z * u2 (g - b) + u2 (g - b) - 1 : Int) : Rat)
theorem Gap.decides {X : Nat → Rat} {b g w : Nat} {lo hi : Int} (h0 : Gap X b g) (h : ∃ N : Nat, ∀ m, N ≤ m → Enc (u2 w) lo hi (X m)) (hb : g ≤ w) (hw : hi - lo < u2 (w - g)) : lo / u2 (w - b) = hi / u2 (w - b) := by
 obtain ⟨hbg, z, N, g0⟩ := h0
 obtain ⟨M, h⟩ := h
 have g1 := g0 (max N M) xq
 have h1 := h (max N M) xq
 have e : u2 w = u2 g * u2 (w - g) := by rw [← u2_add, show g + (w - g) = w by omega]
 have e2 : u2 (w - b) = u2 (g - b) * u2 (w - g) := by rw [← u2_add, show g - b + (w - g) = w - b by omega]
 have hs := u2_pos (w - g)
 have hB := u2_pos (g - b)
 generalize u2 (w - g) = s at *
 generalize u2 (g - b) = B at *
 obtain ⟨h4, h5⟩ := h1
 rw [e, Rat.intCast_mul, ← Rat.mul_assoc] at h4 h5
 have r1 := Rat.mul_le_mul_of_nonneg_right g1.1 (Rat.le_of_lt (castI_pos hs))
 have r2 := Rat.mul_le_mul_of_nonneg_right g1.2 (Rat.le_of_lt (castI_pos hs))
 rw [← Rat.intCast_mul] at r1 r2
 have k1 := Rat.intCast_le_intCast.1 (Rat.le_trans r1 h5)
 have k2 := Rat.intCast_le_intCast.1 (Rat.le_trans h4 r2)
 have hS : 0 < B * s := Int.mul_pos hB hs
 have e3 : (z * B + 1) * s = z * (B * s) + s := by grind
 have e4 : (z * B + B - 1) * s = z * (B * s) + B * s - s := by grind
 rw [e3] at k1
 rw [e4] at k2
 have f : ∀ y : Int, z * (B * s) ≤ y → y < z * (B * s) + B * s → y / u2 (w - b) = z := fun y h1 h2 => by
  rw [e2]
  have a1 := Int.le_ediv_of_mul_le hS h1
  have a2 : y / (B * s) < z + 1 := Int.ediv_lt_of_lt_mul hS (by rw [Int.add_mul, Int.one_mul]; exact h2)
  omega
 have hle : lo ≤ hi := (h (max N M) xq).le
 rw [f lo xq xq, f hi xq xq]
theorem Gap.of {X : Nat → Rat} {b g w : Nat} {lo hi : Int} (h : ∃ N : Nat, ∀ m, N ≤ m → Enc (u2 w) lo hi (X m)) (z : Int) (hb : b ≤ g) (hg : g ≤ w) (h1 : (z * u2 (g - b) + 1) * u2 (w - g) ≤ lo) (h2 : hi ≤ (z * u2 (g - b) + u2 (g - b) - 1) * u2 (w - g)) : Gap X b g := by
 obtain ⟨N, h⟩ := h
 have e : u2 w = u2 g * u2 (w - g) := by rw [← u2_add, show g + (w - g) = w by omega]
 have hs := castI_pos (u2_pos (w - g))
 refine ⟨hb, z, N, fun m hm => ?_⟩
 obtain ⟨h4, h5⟩ := h m hm
 rw [e, Rat.intCast_mul, ← Rat.mul_assoc] at h4 h5
 have k1 := Rat.le_trans (Rat.intCast_le_intCast.2 h1) h4
 have k2 := Rat.le_trans h5 (Rat.intCast_le_intCast.2 h2)
 rw [Rat.intCast_mul] at k1 k2
 exact ⟨Rat.le_of_mul_le_mul_right k1 hs, Rat.le_of_mul_le_mul_right k2 hs⟩
end Nt
end Go.Proofs.YtbolmkfphieogaaGreat
namespace Go.Proofs.YtbolmkfphieogaaGreat
set_option linter.unusedVariables false
namespace Nt
theorem flr_b (q : Rat) : ((flr q : Int) : Rat) ≤ q ∧ q < ((flr q + 1 : Int) : Rat) := by
 have hd : (0 : Int) < (q.den : Int) := by have := q.den_pos; omega
 have e : q = (q.num : Rat) / ((q.den : Int) : Rat) := by
  rw [mk_div]; exact (Rat.mkRat_self q).symm
 have h1 := (fl_mul (a := q.num) hd).1
 have h2 := Int.lt_ediv_add_one_mul_self q.num hd
 have hD := castI_pos hd
 have k1 := Rat.intCast_le_intCast.2 h1
 have k2 := Rat.intCast_lt_intCast.2 h2
 rw [Rat.intCast_mul] at k1 k2
 have e2 : (q.num : Rat) = q * ((q.den : Int) : Rat) := by
  have := div_mul_c (x := (q.num : Rat)) hD
  rw [← e] at this
  exact this.symm
 rw [e2] at k1 k2
 refine ⟨Rat.le_of_mul_le_mul_right k1 hD, ?_⟩
 by_cases h6 : q < ((flr q + 1 : Int) : Rat)
 ·exact h6
 ·have h7 := Rat.mul_le_mul_of_nonneg_right (Rat.not_lt.1 h6) (Rat.le_of_lt hD)
  exact absurd k2 (Rat.not_lt.2 h7)
def gr (w : Nat) (a : Int) : Rat := (a : Rat) / (u2 w : Rat)
theorem gr_mul (w : Nat) (a : Int) : gr w a * (u2 w : Rat) = (a : Rat) := div_mul_c (castI_pos (u2_pos w))
section
variable {n w k : Nat} {a b c d : Int}
end
section
variable {p q w k : Nat} {tl th c d ql qh c' d' : Int}
end
end Nt
end Go.Proofs.YtbolmkfphieogaaGreat
namespace Go.Proofs.YtbolmkfphieogaaGreat
open Go.RowKit
set_option linter.unusedVariables false
namespace Nt
def nrZ (q : Rat) (k : Nat) : Int := flr (q * ((2 ^ k : Nat) : Rat) + 1 / 2)
theorem nr_mk {z : Int} {D k : Nat} (hD : 0 < D) : mkRat ((z * ((2 ^ (k + 1) : Nat) : Int) + (D : Int)) / ((D * 2 ^ 1 : Nat) : Int)) (2 ^ k) = gr k (nrZ (mkRat z D) k) := by
 have e : mkRat z D * ((2 ^ k : Nat) : Rat) + 1 / 2 = mkRat (z * ((2 ^ (k + 1) : Nat) : Int) + (D : Int)) (D * 2 ^ 1) := by
  rw [shl_mk, ← mk_div, ← mk_div, Rat.intCast_add, Rat.intCast_mul, Rat.intCast_mul]
  have hd := cast_pos hD
  have h2 : (((D * 2 ^ 1 : Nat) : Int) : Rat) = 2 * (D : Rat) := by
   have : (((D * 2 ^ 1 : Nat) : Int) : Rat) = ((D * 2 : Nat) : Rat) := rfl
   rw [this, Rat.natCast_mul]
   have e2 : ((2 : Nat) : Rat) = 2 := rfl
   rw [e2]; grind
  have h3 : (((2 ^ (k + 1) : Nat) : Int) : Rat) = 2 * (((2 ^ k : Nat) : Int) : Rat) := by
   have : (((2 ^ (k + 1) : Nat) : Int) : Rat) = ((2 ^ k * 2 : Nat) : Rat) := rfl
   rw [this, Rat.natCast_mul]
   have e2 : ((2 : Nat) : Rat) = 2 := rfl
   have e3 : (((2 ^ k : Nat) : Int) : Rat) = ((2 ^ k : Nat) : Rat) := rfl
   rw [e2, e3]; grind
  have h4 : ((D : Int) : Rat) = (D : Rat) := rfl
  rw [h2, h3, h4]
  have hd' : (D : Rat) ≠ 0 := by grind
  grind
 unfold nrZ
 rw [e, flr_mk (Nat.mul_pos hD xw), ← mk_div]
 rfl
theorem flr_half (z : Int) : flr ((z : Rat) + 1 / 2) = z := by
 have h := flr_b ((z : Rat) + 1 / 2)
 obtain ⟨h1, h2⟩ := h
 have e1 : ((flr ((z : Rat) + 1 / 2) : Int) : Rat) < ((z + 1 : Int) : Rat) := by rw [Rat.intCast_add]; have : ((1 : Int) : Rat) = 1 := rfl; rw [this]; grind
 have e2 : ((z : Int) : Rat) < ((flr ((z : Rat) + 1 / 2) + 1 : Int) : Rat) := by grind
 have k1 := Rat.intCast_lt_intCast.1 e1
 have k2 := Rat.intCast_lt_intCast.1 e2
 omega
theorem nr_gr (z : Int) (k : Nat) : flr (gr k z * (((2 ^ k : Nat) : Int) : Rat) + ((1 : Int) : Rat) / ((2 : Int) : Rat)) = z := by
 have h := gr_mul k z
 have e : (u2 k : Rat) = (((2 ^ k : Nat) : Int) : Rat) := rfl
 rw [e] at h
 rw [h]
 exact flr_half z
def coZ (x y : Rat) (k : Nat) : Int := nrZ ((x + y) * (((1 : Int) : Rat) / ((2 : Int) : Rat))) k
theorem digits_small {N : Nat} (h0 : 0 < N) (h1 : N < 4294967296) : digits N = [(N : Int)] := by
 rw [digits, if_neg xq, show N / 4294967296 = 0 by omega, zxa, show N % 4294967296 = N by omega]
end Nt
theorem NatN.one_len {u : World} {x : Sl} {N K : Nat} (h : NatN u x N K) (h1 : N < 4294967296) : x.n = if N = 0 then 0 else 1 := by
 rw [h.1]
 split
 ·rename_i e; subst e; exact Nt.dl_zero
 ·rename_i e
  unfold dl
  rw [Nt.digits_small xq h1]; rfl
theorem NatN.one_cell {u : World} {x : Sl} {N K : Nat} (h : NatN u x N K) (h0 : 0 < N) (h1 : N < 4294967296) : ∃ b o, x.a = some ⟨b, o, none⟩ ∧ u.cell? ⟨b, o + 0 * 1, none⟩ = some (.int .u32 (N : Int)) := by
 have hn := h.one_len h1
 rw [if_neg xq] at hn
 have h2 := h.2.1
 rw [Nt.digits_small h0 h1] at h2
 obtain ⟨b, o, e, hc⟩ := ints_at h2 (i := 0) xq
 exact ⟨b, o, e, hc⟩
end Go.Proofs.YtbolmkfphieogaaGreat
namespace Go.Proofs.YtbolmkfphieogaaGreat
set_option linter.unusedVariables false
namespace Nt
def force {α : Type} (n : Nat) (k : Nat → α) : α := Nat.rec (k 0) (fun m _ => k (m + 1)) n
theorem force_eq {α : Type} (n : Nat) (k : Nat → α) : force n k = k n := by cases n <;> rfl
def cdn (a d : Nat) : Nat := (a + d - 1) / d
theorem cdn_cdiv {a d : Nat} (hd : 0 < d) : ((cdn a d : Nat) : Int) = cdiv (a : Int) (d : Int) := by
 have h1 := cd_mul (b := (a : Int)) (d := (d : Int)) xq
 have h2 := Nat.div_mul_le_self (a + d - 1) d
 have h3 := Nat.lt_div_mul_add (a := a + d - 1) hd
 have e : cdn a d = (a + d - 1) / d := rfl
 rw [← e] at h2 h3
 have k1 : ((cdn a d : Nat) : Int) * (d : Int) < (cdiv (a : Int) (d : Int) + 1) * (d : Int) := by
  rw [Int.add_mul, ← Int.natCast_mul]; omega
 have k2 : cdiv (a : Int) (d : Int) * (d : Int) < (((cdn a d : Nat) : Int) + 1) * (d : Int) := by
  rw [Int.add_mul, ← Int.natCast_mul]; omega
 have k3 := Int.lt_of_mul_lt_mul_right k1 xq
 have k4 := Int.lt_of_mul_lt_mul_right k2 xq
 omega
def sumAB (a : Nat → Rat) : Nat → Rat × Rat
 | 0 => (0, 0)
 | n + 1 => ((sumAB a n).2, (sumAB a n).1 + a n)
theorem alt_AB (a : Nat → Rat) (n : Nat) : alt a n = sgn n * ((sumAB a n).1 - (sumAB a n).2) := by
 induction n with
 | zero => show (0 : Rat) = 1 * (0 - 0); decide +kernel
 | succ n ih =>
  rw [alt_s, ih, sgn_s]
  show _ = -sgn n * ((sumAB a n).2 - ((sumAB a n).1 + a n))
  grind
structure EvS where
 (l h el eh ol oh : Nat)
def EvI (U : Int) (a t : Nat → Rat) (k : Nat) (s : EvS) : Prop := Enc U (s.l : Int) (s.h : Int) (t k) ∧ Enc U (s.el : Int) (s.eh : Int) (sumAB a k).1 ∧ Enc U (s.ol : Int) (s.oh : Int) (sumAB a k).2
def atEv (nn : Nat) (r : Nat) : Nat → Nat → Nat → Nat → Nat → Nat → Nat → EvS :=
 Nat.rec (fun _ l h el eh ol oh => ⟨l, h, el, eh, ol, oh⟩)
  (fun _ ih k l h el eh ol oh =>
   force (l / nn) fun l' => force (cdn h nn) fun h' => force (2 * k + 1) fun d => force (l / d) fun tl => force (cdn h d) fun th =>
   force (el + tl) fun el' => force (eh + th) fun eh' => ih (k + 1) l' h' ol oh el' eh') r
theorem Enc.overN {U : Int} {a b d : Nat} {x : Rat} (h : Enc U (a : Int) (b : Int) x) (hd : 0 < d) : Enc U ((a / d : Nat) : Int) ((cdn b d : Nat) : Int) (x / (d : Rat)) := by
 rw [cdn_cdiv hd]
 exact h.over (d := (d : Int)) xq
theorem atEv_ok {n : Nat} (hn : 0 < n) {U : Int} : ∀ r k l h el eh ol oh, EvI U (atT n) (atP n) k ⟨l, h, el, eh, ol, oh⟩ → EvI U (atT n) (atP n) (k + r) (atEv (n * n) r k l h el eh ol oh) := by
 intro r
 induction r with
 | zero => intro k l h el eh ol oh hi; exact hi
 | succ r ih =>
  intro k l h el eh ol oh hi
  obtain ⟨h1, h2, h3⟩ := hi
  have t : Enc U ((l / (2 * k + 1) : Nat) : Int) ((cdn h (2 * k + 1) : Nat) : Int) (atT n k) := h1.overN xq
  have p : Enc U ((l / (n * n) : Nat) : Int) ((cdn h (n * n) : Nat) : Int) (atP n (k + 1)) := h1.overN (Nat.mul_pos hn hn)
  have e0 : atEv (n * n) (r + 1) k l h el eh ol oh = force (l / (n * n)) fun l' => force (cdn h (n * n)) fun h' => force (2 * k + 1) fun d => force (l / d) fun tl => force (cdn h d) fun th => force (el + tl) fun el' => force (eh + th) fun eh' => atEv (n * n) r (k + 1) l' h' ol oh el' eh' := rfl
  have e : atEv (n * n) (r + 1) k l h el eh ol oh = atEv (n * n) r (k + 1) (l / (n * n)) (cdn h (n * n)) ol oh (el + l / (2 * k + 1)) (eh + cdn h (2 * k + 1)) := by
   rw [e0]; simp only [force_eq]
  rw [show k + (r + 1) = k + 1 + r by omega, e]
  exact ih (k + 1) _ _ _ _ _ _ ⟨p, h3, h2.add t⟩
theorem ev_late {U : Int} {a : Nat → Rat} {k j0 e : Nat} {s : EvS} (hU : 0 < U) (h0 : ∀ j, 0 ≤ a j) (hd : ∀ j, j0 ≤ j → a (j + 1) ≤ a j) (hk : j0 ≤ k) (hk2 : k % 2 = 0) (h1 : Enc U (s.el : Int) (s.eh : Int) (sumAB a k).1) (h2 : Enc U (s.ol : Int) (s.oh : Int) (sumAB a k).2) (he : a k * (U : Rat) ≤ (e : Rat)) : ∀ m, k ≤ m → Enc U ((s.el : Int) - (s.oh : Int) - (e : Int)) ((s.eh : Int) - (s.ol : Int) + (e : Int)) (alt a m) := by
 intro m hm
 have h3 := alt_near h0 hd hk hm
 have h4 := h1.sub h2
 have e4 : (sumAB a k).1 - (sumAB a k).2 = alt a k := by
  rw [alt_AB]; unfold sgn; rw [if_pos hk2, Rat.one_mul]
 rw [e4] at h4
 obtain ⟨g1, g2⟩ := h4
 have hUr := Rat.le_of_lt (castI_pos hU)
 have k3 := Rat.mul_le_mul_of_nonneg_right h3.1 hUr
 have k4 := Rat.mul_le_mul_of_nonneg_right h3.2 hUr
 have ee : (((e : Nat) : Int) : Rat) = (e : Rat) := rfl
 unfold Enc
 rw [Rat.intCast_sub ((s.el : Int) - (s.oh : Int)), Rat.intCast_add, ee]
 constructor <;> grind
def atB (n w r : Nat) : Int × Int :=
 let x := atEv (n * n) r 0 (2 ^ w / n) (cdn (2 ^ w) n) 0 0 0 0
 ((x.el : Int) - (x.oh : Int) - (x.h : Int), (x.eh : Int) - (x.ol : Int) + (x.h : Int))
theorem Enc.zero (U : Int) : Enc U ((0 : Nat) : Int) ((0 : Nat) : Int) 0 := by
 show ((0 : Int) : Rat) ≤ 0 * (U : Rat) ∧ (0 : Rat) * (U : Rat) ≤ ((0 : Int) : Rat)
 rw [Rat.zero_mul]
 exact ⟨Rat.le_refl, Rat.le_refl⟩
theorem atB_ok {n w r : Nat} (hn : 0 < n) (hr : r % 2 = 0) : ∀ m, r ≤ m → Enc (u2 w) (atB n w r).1 (atB n w r).2 (alt (atT n) m) := by
 have h1 : Enc (u2 w) ((2 ^ w / n : Nat) : Int) ((cdn (2 ^ w) n : Nat) : Int) (atP n 0) := Enc.overN (a := 2 ^ w) (b := 2 ^ w) Enc.one hn
 obtain ⟨e2, e3, e4⟩ := atEv_ok hn (U := u2 w) r 0 _ _ _ _ _ _ ⟨h1, Enc.zero _, Enc.zero _⟩
 rw [Nat.zero_add] at e2 e3 e4
 intro m hm
 refine ev_late (u2_pos w) (atT_nn hn) (fun j _ => atT_le hn j) (Nat.zero_le _) hr e3 e4 ?_ m hm
 have hle : atT n r ≤ atP n r := div_le_self (atP_nn hn r) (cast_one xq)
 exact Rat.le_trans (Rat.mul_le_mul_of_nonneg_right hle (Rat.le_of_lt (castI_pos (u2_pos w)))) e2.2
def piB (w r s : Nat) : Int × Int :=
 let a := atB 5 w r
 let b := atB 239 w s
 (a.1 * 16 - b.2 * 4, a.2 * 16 - b.1 * 4)
theorem piB_ok {w r s : Nat} (hr : r % 2 = 0) (hs : s % 2 = 0) : ∀ m, r + s ≤ m → Enc (u2 w) (piB w r s).1 (piB w r s).2 (piN m) := by
 intro m hm
 have e := ((atB_ok (n := 5) (w := w) xw hr m xq).times (n := 16)).sub ((atB_ok (n := 239) (w := w) xw hs m xq).times (n := 4))
 have e2 : piN m = alt (atT 5) m * ((16 : Nat) : Rat) - alt (atT 239) m * ((4 : Nat) : Rat) := by
  unfold piN
  rw [Rat.mul_comm, Rat.mul_comm 4]; rfl
 rw [e2]; exact e
def csEv (U ql qh r : Nat) : Nat → Nat → Nat → Nat → Nat → Nat → Nat → EvS :=
 Nat.rec (fun _ l h el eh ol oh => ⟨l, h, el, eh, ol, oh⟩)
  (fun _ ih k l h el eh ol oh =>
   force ((2 * k + 2) * (2 * k + 1)) fun d => force (l * ql / U / d) fun l' => force (cdn (cdn (h * qh) U) d) fun h' =>
   force (el + l) fun el' => force (eh + h) fun eh' => ih (k + 1) l' h' ol oh el' eh') r
theorem Enc.prodN {U a b c d : Nat} {x y : Rat} (hU : 0 < U) (h : Enc (U : Int) (a : Int) (b : Int) x) (k : Enc (U : Int) (c : Int) (d : Int) y) : Enc (U : Int) ((a * c / U : Nat) : Int) ((cdn (b * d) U : Nat) : Int) (x * y) := by
 rw [cdn_cdiv hU]
 exact h.prod k xq xq xq
theorem csEv_ok {U ql qh : Nat} (hU : 0 < U) {y : Rat} (hq : Enc (U : Int) (ql : Int) (qh : Int) (y * y)) : ∀ r k l h el eh ol oh, EvI (U : Int) (csT y) (csT y) k ⟨l, h, el, eh, ol, oh⟩ → EvI (U : Int) (csT y) (csT y) (k + r) (csEv U ql qh r k l h el eh ol oh) := by
 intro r
 induction r with
 | zero => intro k l h el eh ol oh hi; exact hi
 | succ r ih =>
  intro k l h el eh ol oh hi
  obtain ⟨h1, h2, h3⟩ := hi
  have p : Enc (U : Int) ((l * ql / U / ((2 * k + 2) * (2 * k + 1)) : Nat) : Int) ((cdn (cdn (h * qh) U) ((2 * k + 2) * (2 * k + 1)) : Nat) : Int) (csT y (k + 1)) := (Enc.prodN hU h1 hq).overN (Nat.mul_pos xq xq)
  have e0 : csEv U ql qh (r + 1) k l h el eh ol oh = force ((2 * k + 2) * (2 * k + 1)) fun d => force (l * ql / U / d) fun l' => force (cdn (cdn (h * qh) U) d) fun h' => force (el + l) fun el' => force (eh + h) fun eh' => csEv U ql qh r (k + 1) l' h' ol oh el' eh' := rfl
  have e : csEv U ql qh (r + 1) k l h el eh ol oh = csEv U ql qh r (k + 1) (l * ql / U / ((2 * k + 2) * (2 * k + 1))) (cdn (cdn (h * qh) U) ((2 * k + 2) * (2 * k + 1))) ol oh (el + l) (eh + h) := by
   rw [e0]; simp only [force_eq]
  rw [show k + (r + 1) = k + 1 + r by omega, e]
  exact ih (k + 1) _ _ _ _ _ _ ⟨p, h3, h2.add h1⟩
def csX (U pl ph r p q : Nat) : EvS :=
 force (pl * p / q) fun yl => force (cdn (ph * p) q) fun yh => force (yl * yl / U) fun ql => force (cdn (yh * yh) U) fun qh => csEv U ql qh r 0 U U 0 0 0 0
def xLo (x : EvS) : Int := (x.el : Int) - (x.oh : Int) - (x.h : Int)
def xHi (x : EvS) : Int := (x.eh : Int) - (x.ol : Int) + (x.h : Int)
theorem csX_ok {w pl ph r p q N : Nat} (hpi : ∀ m, N ≤ m → Enc (u2 w) (pl : Int) (ph : Int) (piN m)) (hq : 0 < q) (hp : 2 * p ≤ q) (hr : 1 ≤ r) (hr2 : r % 2 = 0) : ∀ m, max N r ≤ m → Enc (u2 w) (xLo (csX (2 ^ w) pl ph r p q)) (xHi (csX (2 ^ w) pl ph r p q)) (coN p q m) := by
 intro m hm
 have hU : 0 < 2 ^ w := Nat.pow_pos xw
 have hy := csY_b (m := m) hq hp xq
 have hyy : csY p q m * csY p q m ≤ 12 := Rat.le_trans (mulm hy.2 hy.2 hy.1 hy.1) (by decide +kernel)
 have y1 : Enc (((2 ^ w : Nat) : Nat) : Int) ((pl * p / q : Nat) : Int) ((cdn (ph * p) q : Nat) : Int) (csY p q m) := by
  have h1 := (hpi m xq).times (n := p)
  rw [← Int.natCast_mul, ← Int.natCast_mul] at h1
  exact h1.overN hq
 have q1 := Enc.prodN hU y1 y1
 have hE := csEv_ok hU q1 r 0 (2 ^ w) (2 ^ w) 0 0 0 0 ⟨Enc.one, Enc.zero _, Enc.zero _⟩
 rw [Nat.zero_add] at hE
 obtain ⟨e1, e2, e3⟩ := hE
 unfold csX
 simp only [force_eq]
 exact ev_late (u2_pos w) (csT_nn _) (csT_le hyy) hr hr2 e2 e3 e1.2 m xq
end Nt
end Go.Proofs.YtbolmkfphieogaaGreat
namespace Go.Proofs.YtbolmkfphieogaaGreat
set_option linter.unusedVariables false
set_option maxRecDepth 20000
namespace Nt
theorem pi_ev : piB 340 84 24 = (7036365627942155232378451105383714118229498621515162138157626346021022039982006998243213719805928137372, 7036365627942155232378451105383714118229498621515162138157626346021022039982006998243213719805928138852) := by decide +kernel
def pl8 : Nat := 1069028584064966747859680373161870783300
def ph8 : Nat := 1069028584064966747859680373161870783301
theorem pi_340 : ∀ m, 110 ≤ m → Enc (u2 340) 7036365627942155232378451105383714118229498621515162138157626346021022039982006998243213719805928137372 7036365627942155232378451105383714118229498621515162138157626346021022039982006998243213719805928138852 (piN m) := fun m hm => by
 have h := piB_ok (w := 340) (r := 84) (s := 24) xw xw m xq
 rw [pi_ev] at h
 exact h
theorem pi_128 : ∀ m, 110 ≤ m → Enc (u2 128) (pl8 : Int) (ph8 : Int) (piN m) := fun m hm => by
 have h := pi_340 m hm
 have hp := castI_pos (u2_pos 212)
 have e : u2 340 = u2 128 * u2 212 := by rw [← u2_add]
 obtain ⟨h1, h2⟩ := h
 rw [e, Rat.intCast_mul, ← Rat.mul_assoc] at h1 h2
 have k1 : ((pl8 : Int) * u2 212 : Int) ≤ 7036365627942155232378451105383714118229498621515162138157626346021022039982006998243213719805928137372 := by decide +kernel
 have k2 : (7036365627942155232378451105383714118229498621515162138157626346021022039982006998243213719805928138852 : Int) ≤ (ph8 : Int) * u2 212 := by decide +kernel
 have r1 := Rat.le_trans (Rat.intCast_le_intCast.2 k1) h1
 have r2 := Rat.le_trans h2 (Rat.intCast_le_intCast.2 k2)
 rw [Rat.intCast_mul] at r1 r2
 exact ⟨Rat.le_of_mul_le_mul_right r1 hp, Rat.le_of_mul_le_mul_right r2 hp⟩
def cs8 (p q : Nat) : EvS := csX (2 ^ 128) pl8 ph8 16 p q
theorem cs8_ok {p q : Nat} (hq : 0 < q) (hp : 2 * p ≤ q) : ∃ N : Nat, ∀ m, N ≤ m → Enc (u2 128) (xLo (cs8 p q)) (xHi (cs8 p q)) (coN p q m) := ⟨_, csX_ok pi_128 hq hp xw xw⟩
def gapX (B S T : Nat) (x : EvS) : Bool :=
 force (x.el - x.oh - x.h) fun lo => force (x.eh + x.h - x.ol) fun hi => force (lo / T) fun z =>
  Nat.ble 1 lo && (Nat.ble ((z * B + 1) * S) lo && Nat.ble hi ((z * B + B - 1) * S))
def gapB (p q b g : Nat) : Bool := gapX (2 ^ (g - b)) (2 ^ (128 - g)) (2 ^ (128 - b)) (cs8 p q)
theorem gapB_ok {p q b g : Nat} (h : gapB p q b g = true) (hq : 0 < q) (hp : 2 * p ≤ q) (hb : b ≤ g) (hg : g ≤ 128) : Gap (coN p q) b g := by
 unfold gapB gapX at h
 simp only [force_eq, Bool.and_eq_true, Nat.ble_eq] at h
 obtain ⟨h1, h2, h3⟩ := h
 have k := cs8_ok hq hp
 generalize cs8 p q = x at *
 have e1 : xLo x = ((x.el - x.oh - x.h : Nat) : Int) := by unfold xLo; omega
 have e2 : xHi x ≤ ((x.eh + x.h - x.ol : Nat) : Int) := by unfold xHi; omega
 generalize x.el - x.oh - x.h = lo at *
 generalize x.eh + x.h - x.ol = hi at *
 have hB := Nat.pow_pos (n := g - b) (show 0 < 2 by decide)
 refine Gap.of k ((lo / 2 ^ (128 - b) : Nat) : Int) hb hg ?_ ?_
 ·rw [e1]
  have := Int.ofNat_le.2 h2
  rw [Int.natCast_mul, Int.natCast_add, Int.natCast_mul] at this
  exact this
 ·refine Int.le_trans e2 ?_
  have := Int.ofNat_le.2 h3
  rw [Int.natCast_mul, Int.natCast_sub xq, Int.natCast_add, Int.natCast_mul] at this
  exact this
def gapP (b g q n : Nat) : Bool := Nat.rec true (fun p ih => (bif Nat.ble (2 * p + 3) q then bif Nat.beq (3 * p + 3) q then true else gapB (p + 1) q b g else true) && ih) n
def gapN (b g n : Nat) : Bool := Nat.rec true (fun q ih => gapP b g (q + 1) ((q + 1) / 2) && ih) n
theorem gapP_s (b g q n : Nat) : gapP b g q (n + 1) = ((bif Nat.ble (2 * n + 3) q then bif Nat.beq (3 * n + 3) q then true else gapB (n + 1) q b g else true) && gapP b g q n) := rfl
theorem gapN_s (b g n : Nat) : gapN b g (n + 1) = (gapP b g (n + 1) ((n + 1) / 2) && gapN b g n) := rfl
theorem gapP_ok {b g q : Nat} : ∀ n p, gapP b g q n = true → 1 ≤ p → p ≤ n → 2 * p < q → 3 * p ≠ q → gapB p q b g = true := by
 intro n
 induction n with
 | zero => intro p _ h1 h2; omega
 | succ n ih =>
  intro p h h1 h2 h3 h4
  have h' := h
  rw [gapP_s, Bool.and_eq_true] at h'
  by_cases e : p = n + 1
  ·subst e
   have h5 := h'.1
   rw [show Nat.ble (2 * n + 3) q = true by rw [Nat.ble_eq]; omega, show Nat.beq (3 * n + 3) q = false by
    cases hh : Nat.beq (3 * n + 3) q with
    | false => rfl
    | true => exact absurd (Nat.eq_of_beq_eq_true hh) xq, cond_true, cond_false] at h5
   exact h5
  ·exact ih p h'.2 h1 xq h3 h4
theorem gapN_ok {b g : Nat} : ∀ n q, gapN b g n = true → 1 ≤ q → q ≤ n → gapP b g q (q / 2) = true := by
 intro n
 induction n with
 | zero => intro q _ h1 h2; omega
 | succ n ih =>
  intro q h h1 h2
  have h' := h
  rw [gapN_s, Bool.and_eq_true] at h'
  by_cases e : q = n + 1
  ·subst e; exact h'.1
  ·exact ih q h'.2 h1 xq
def GapQ (q b : Nat) : Prop := ∃ g, g ≤ 300 ∧ ∀ p, 1 ≤ p → 2 * p < q → 3 * p ≠ q → Gap (coN p q) b g
theorem gapQ_of {b g n q : Nat} (h : gapN b g n = true) (hb : b ≤ g) (hg : g ≤ 128) (h1 : 1 ≤ q) (hq : q ≤ n) : GapQ q b :=
 ⟨g, by omega, fun p hp1 hp h3 => gapB_ok (gapP_ok _ p (gapN_ok n q h xq hq) hp1 xq hp h3) xq xq hb hg⟩
theorem gap_64 : gapN 64 80 16 = true := by decide +kernel
theorem gapQ_16 {q : Nat} (h1 : 1 ≤ q) (hq : q ≤ 16) : GapQ q 64 := gapQ_of gap_64 xw xw h1 hq
end Nt
end Go.Proofs.YtbolmkfphieogaaGreat
namespace Go.Proofs.YtbolmkfphieogaaGreat
set_option linter.unusedVariables false
namespace Nt
open Classical in
noncomputable def flo (X : Nat → Rat) (b : Nat) : Int := if h : ∃ z, FlO X b z then h.choose else 0
theorem FlO.flo {X : Nat → Rat} {b : Nat} {z : Int} (h : FlO X b z) : flo X b = z := by
 have hz : ∃ z, FlO X b z := ⟨z, h⟩
 unfold Nt.flo
 rw [dif_pos hz]
 exact hz.choose_spec.uniq h
def fold (p : Int) (q : Nat) : Nat := let r := (Int.tmod p (2 * (q : Int))).natAbs; if q < r then 2 * q - r else r
theorem fold_le (p : Int) (q : Nat) (hq : 0 < q) : fold p q ≤ q := by
 have h : (Int.tmod p (2 * (q : Int))).natAbs < 2 * q := by
  rw [Int.natAbs_tmod]
  have : (2 * (q : Int)).natAbs = 2 * q := by omega
  rw [this]
  exact Nat.mod_lt _ xq
 unfold fold
 dsimp only
 split <;> omega
noncomputable def cosA (p q b : Nat) : Rat × Rat :=
 if p = 0 then (1, 1) else if 2 * p = q then (0, 0) else if 3 * p = q then (dnQ (1 / 2) b, -dnQ (-(1 / 2)) b)
 else (gr b (flo (coN p q) b), gr b (flo (coN p q) b + 1))
noncomputable def cosF (p q b : Nat) : Rat × Rat := if q < 2 * p then (-(cosA (q - p) q b).2, -(cosA (q - p) q b).1) else cosA p q b
noncomputable def cosV (p : Int) (q b : Nat) : Rat × Rat := cosF (fold p q) q b
end Nt
end Go.Proofs.YtbolmkfphieogaaGreat
namespace Go.Proofs.YtbolmkfphieogaaGreat
open Go.RowKit
set_option linter.unusedVariables false
namespace Nt
end Nt
section
variable {P : Program} (w : World)
theorem wpList_makeKC {ops : Array Oper} {rest : List Oper} {o : Oper} {a : Act} {Q : Exit → Act → World → Prop}
  (hg : o.guard = none) (l c : Operand) (t : TypeId) (hop : o.op = Op.makeSlice t l c) (e : TypeId) (k : IntKind) (bytes : Nat) (h1 : P.underlying t = some (.slice e))
  (h2 : (P.info? e).map (fun i => (i.zero, i.size, i.bytes)) = some (some (.int k 0), 1, bytes))
  (kl kc : IntKind) (L C : Int) (n m : Nat) (hl : a.eval l = .int kl L) (hc : a.eval c = .int kc C) (hL : L = (n : Int)) (hC : C = (m : Int)) (hnm : n ≤ m) (b2 : bytes * m ≤ 281474976710656) (b3 : m ≤ maxLen)
  (hK : ∀ w', OwnK k w' w.heap.size e (some ⟨w.heap.size, 0, none⟩) n m (List.replicate n 0) → Below w.heap.size w w' → w'.heap.size = w.heap.size + 1 → wpList P ops Q rest (a.put o.dst (.slice (some ⟨w.heap.size, 0, none⟩) n m)) w') :
  wpList P ops Q (o :: rest) a w := by
 obtain ⟨i, hi, hz, hs, hb⟩ := info_parts h2
 refine wpList_plain hg fun K hK' => ?_
 subst hL hC hb
 have h63 : (m : Int) ≤ 9223372036854775807 := by have := b3; unfold maxLen at this; omega
 have hb' : (i.bytes : Int) * (m : Int) ≤ 281474976710656 := by
  have h : ((i.bytes * m : Nat) : Int) ≤ 281474976710656 := by omega
  rwa [Int.natCast_mul] at h
 have hrun := run_make (P := P) w t e i _ h1 hi hz kl kc n m xq xq hb' h63
 unfold Oper.wp
 simp [execOp, hop, hl, hc, hrun, Result.andThen]
 have hblk : KBlk k (w.alloc (.cells (madeCells (Value.int k 0).cells (m * i.size)) e)) w.heap.size e (List.replicate m 0) := by
  unfold KBlk
  rw [heap_alloc_new, hs, Nat.mul_one]
  congr 2
  apply Array.ext'
  have h3 := toList_madeCells_one (.int k 0) m
  have h4 : (Value.int k 0).cells = #[Value.int k 0] := rfl
  rw [h4, h3]
  simp
 refine hK' _ _ (hK _ ⟨by simp, by simp, .inr ⟨w.heap.size, m, _, rfl, Nat.le_refl _, hblk, hnm, b3, by simp, by simp [List.take_replicate, Nat.min_eq_left hnm]⟩⟩ ((Below.refl _ _).alloc (Nat.le_refl _) _) (by simp))
end
namespace Nt
theorem bitLen_bitl {t : Nat} (h : t < 4294967296) : Lib.bitLen t = bitl t := by
 rcases Nat.eq_zero_or_pos t with h0 | h0
 ·subst h0; rfl
 ·have hb : 1 ≤ Lib.bitLen t ∧ 2 ^ (Lib.bitLen t - 1) ≤ t ∧ t < 2 ^ Lib.bitLen t := Lib.bitLenAux_bounds 64 t xq xq
  exact (bitl_unique xq hb.2.1 hb.2.2).symm
theorem bitl_le32 {t : Nat} (h : t < 4294967296) : bitl t ≤ 32 := by
 rcases Nat.eq_zero_or_pos t with h0 | h0
 ·subst h0; decide
 ·have h1 := bitl_le h0
  have h3 : 2 ^ (bitl t - 1) < 2 ^ 32 := by omega
  have := (Nat.pow_lt_pow_iff_right (show 1 < 2 by omega)).1 h3
  omega
end Nt
set_option maxHeartbeats 1000000 in
theorem BitLen_any (A : Option Addr) (n c : Nat) (a : List Int) (w : World) (ha : SlR .u32 w A n c a) (da : Nt.Dig a) (hn : n ≤ 1000000000) :
  Calls Tryz.prog 150 #[.slice A n c] w fun e w' => e = .returned (.int .i64 (Nt.bitl (Nt.val a).toNat)) ∧ w' = w := by
 have lx : (Nt.strip a).length ≤ n := by rw [← ha.1]; exact Nt.zyh a
 have hx := ha.upto (m := (Nt.strip a).length) lx
 rw [← Nt.strip_take] at hx
 have hcut := zwj A n c a w ha
 have eN := Nt.zxs da
 rw [eN] at hx lx hcut
 generalize hX : (Nt.val a).toNat = X at *
 obtain ⟨N, hN⟩ : ∃ N, N = (Nt.digits X).length := ⟨_, rfl⟩
 rw [← hN] at hx lx hcut
 clear eN hX
 rcases N with _ | k
 ·have h0 : Hid (Nt.bitl X = 0) := by
   have : X = 0 := by
    rcases Nat.eq_zero_or_pos X with h | h
    ·exact h
    ·have := Nt.zwo h; omega
   show _ = _
   rw [this]; rfl
  clear ha da
  go_enter Tryz.func150, Tryz.ntmps150
  go_wp2_with fail
  refine hcut.mono ?_
  rintro e w1 ⟨rfl, rfl⟩
  go_wp2
  go_ret
  exact ⟨by rw [h0.out]; rfl, rfl⟩
 ·obtain ⟨b, o, rfl, _, hc⟩ := hx.pos (i := k) xq
  have hcm := hx.2.1
  have ht := (Nt.zyj X).at k
  have hne := Nt.norm_last (k := k) (Nt.zxm X) hN.symm
  obtain ⟨t, ht2⟩ : ∃ t : Nat, (Nt.digits X)[k]?.getD 0 = (t : Int) := ⟨((Nt.digits X)[k]?.getD 0).toNat, by omega⟩
  have hfin := Nt.bitl_digits hN.symm ht2 xq
  rw [ht2] at hc hne ht
  have Hfin := Lib.hid hfin
  have HN := Lib.hid hN
  have hkb : ((k : Int) + 1 == 0) = false := by rw [beq_eq_false_iff_ne]; omega
  have hb32 := Nt.bitl_le32 (t := t) xq
  have hbe := Nt.bitLen_bitl (t := t) xq
  clear hfin ht2 hx ha da hN
  go_enter Tryz.func150, Tryz.ntmps150
  go_wp2_with fail
  refine hcut.mono ?_
  rintro e w1 ⟨rfl, rfl⟩
  go_wp2_with fail
  refine (Len32_any (t : Int) _ xq xq).mono ?_
  rintro e w1 ⟨rfl, rfl⟩
  rw [Int.toNat_natCast, hbe]
  generalize Nt.bitl t = bt at *
  go_wp2
  go_ret
  exact ⟨by rw [Hfin.out]; refine congrArg (fun z : Int => Ending.returned (.int .i64 z)) ?_; omega, rfl⟩
section
variable {u u' w w' : World} {x y : Sl} {i j : IL} {r r' : RL} {N M K L S b o n : Nat} {z z' : Int} {q q' : Rat} {l m : List Rat} {cs cs' : List Value}
end
section
variable {u u' w w' : World} {x y : Sl} {i j : IL} {N M K L : Nat}
end
theorem own_strip {w0 w : World} {B : Nat} {A : Option Addr} {n c : Nat} {l : List Int} (h : OwnK .u32 w B 104 A n c l) (hd : Nt.Dig l) (hB : w0.heap.size ≤ B) : NatF w0 w A (Nt.strip l).length c (Nt.val l).toNat := by
 have e := Nt.zxs hd
 have hl := Nt.zyh l
 have h1 := h.1
 have hx := h.slr.upto (m := (Nt.strip l).length) xq
 rw [← Nt.strip_take, e] at hx
 refine ⟨by rw [e], by rw [e]; exact hx, fun hp => ?_⟩
 obtain ⟨a, ha, hb, ht⟩ := h.ty xq
 exact ⟨a, ha, by omega, ht⟩
theorem Nt.raise_val {q s : Nat} {a S : List Int} (hq : q = s / 32) (h : Nt.val S = Nt.val a * 2 ^ (s % 32)) : Nt.val (List.replicate q 0 ++ S) = Nt.val a * 2 ^ s := by
 rw [Nt.val_append, Nt.val_repl, h, Nt.p2_pw s, ← hq]
 simp
 rw [Int.mul_comm, Int.mul_assoc]
theorem Nt.bitl_le_len (l : List Int) (h : Nt.Dig l) : Nt.bitl (Nt.val l).toNat ≤ 32 * l.length := by
 rcases Nat.eq_zero_or_pos (Nt.val l).toNat with h0 | h0
 ·rw [h0]; exact Nat.zero_le _
 ·have h1 := Nt.val_lt h
  rw [Nt.pw_two] at h1
  have h2 := Nt.bitl_le h0
  have h3 : 2 ^ (Nt.bitl (Nt.val l).toNat - 1) < 2 ^ (32 * l.length) := by omega
  have := (Nat.pow_lt_pow_iff_right (show 1 < 2 by omega)).1 h3
  omega
theorem Nt.dl_shift {N K s : Nat} (h : dl N ≤ K) : dl (N * 2 ^ s) ≤ K + s / 32 + 1 := by
 apply Nt.dl_le
 have h1 := Nt.dl_lt (x := N)
 have h2 := Nt.pw_mono h
 rw [Nt.pw_two] at h1 ⊢
 rw [Nt.pw_two, Nt.pw_two] at h2
 have h3 : N < 2 ^ (32 * K) := by omega
 have h4 : N * 2 ^ s < 2 ^ (32 * K) * 2 ^ s := Nat.mul_lt_mul_of_pos_right h3 (Nat.pow_pos xq)
 rw [← Nat.pow_add] at h4
 have h5 : 2 ^ (32 * K + s) ≤ 2 ^ (32 * (K + s / 32 + 1)) := Nat.pow_le_pow_right xq xq
 have h6 := Nat.lt_of_lt_of_le h4 h5
 exact_mod_cast h6
set_option maxHeartbeats 2000000 in
theorem raise_any (A : Option Addr) (n c s : Nat) (a : List Int) (w : World) (ha : SlR .u32 w A n c a) (da : Nt.Dig a) (hn : n ≤ 1000000000) (hs : s ≤ 65536) :
  Calls Tryz.prog 151 #[.slice A n c, .int .i64 s] w fun e w' => ∃ A' n' c', e = .returned (.slice A' n' c') ∧ NatF w w' A' n' c' (Nt.val a * 2 ^ s).toNat ∧ Below w.heap.size w w' := by
 rcases Nat.eq_zero_or_pos n with h0 | h0
 ·subst h0
  have hz : Hid ((Nt.val a * 2 ^ s).toNat = 0) := by
   have e1 : a = [] := List.eq_nil_of_length_eq_zero ha.1
   show _ = _
   rw [e1]; simp [Nt.val]
  clear da ha
  go_enter Tryz.func151, Tryz.ntmps151
  go_wp2
  go_ret
  refine ⟨none, 0, 0, rfl, ?_, Below.refl _ _⟩
  rw [hz.out]
  exact ⟨by rw [Nt.zxa]; rfl, by rw [Nt.zxa]; exact SlR.nil _ _ _ (Nat.zero_le _), fun h => absurd h xq⟩
 ·have hn0 : ((n : Int) == 0) = false := by rw [beq_eq_false_iff_ne]; omega
  obtain ⟨q, hq1, hq2⟩ : ∃ q, 32 * q ≤ s ∧ s < 32 * q + 32 := ⟨s / 32, by omega, by omega⟩
  have hqs : Hid (q = s / 32) := by show _ = _; omega
  have hr32 : s % 32 < 32 := by omega
  have Hda := Lib.hid da
  clear da
  go_enter Tryz.func151, Tryz.ntmps151
  go_wp2_with (at_make; refine wpList_makeKC _ rfl (.tmp 10) (.tmp 16) _ rfl 104 .u32 4 Tryz.underlying22 zxj _ _ _ _ q (q + n + 1) rfl rfl ?L ?C ?nm ?b2 ?b3 ?_)
  case L => show _ = _; omega
  case C => show _ = _; omega
  case nm => omega
  case b2 => omega
  case b3 => unfold maxLen; omega
  intro w2 hk2 hb2 hz2
  have hx2 := ha.below hb2
  have HB2 := Lib.hid hb2
  clear hz2 hb2 ha
  go_wp2_with fail
  refine (lift_any A n c (s % 32) (n + 1) a w2 hx2 Hda.out hn hr32 (.inr rfl)).mono ?_
  rintro e w3 ⟨g, rfl, ⟨S, lo, hg, hk, hSl, hSd, hlo, hlo0, hv⟩, hb3⟩
  have hlo0 := hlo0 rfl
  rw [hlo0] at hv
  have hval := Nt.raise_val hqs.out (a := a) (S := S) xq
  have hs3 := Lib.hid (hk.slr_all (n := n + 1) (c := n + 1) hSl (Nat.le_refl _) yv)
  have hk3 := Lib.hid (hk2.below hb3)
  have Hval := Lib.hid hval
  have Hd := Lib.hid (Nt.Dig.append (Nt.Dig.repl q) hSd)
  have HB3 : Hid (Below w.heap.size w w3) := HB2.out.trans (hb3.mono HB2.out.size)
  have hw3 := HB3.out.size
  clear hval hv hk hg hk2 hlo hlo0 hSl hSd hx2 hb3
  go_wp2_with (at_builtin; refine zxh _ rfl (.tmp 18) (.tmp 26) _ rfl 104 .u32 4 Tryz.underlying22 zxj w.heap.size (some ⟨w.heap.size, 0, none⟩) q (q + n + 1) (List.replicate q 0) rfl ?own (some ⟨g, 0, none⟩) (n + 1) (n + 1) S rfl ?slr ?h63 ?hby ?hbase ?_)
  case own => exact hk3.out
  case slr => exact hs3.out
  case h63 => unfold maxLen; omega
  case hby => omega
  case hbase => omega
  intro A3 c3 w4 ho hb4
  have HO := Lib.hid ho
  have HB4 : Hid (Below w.heap.size w w4) := HB3.out.trans hb4
  clear hs3 hk3 ho hb4
  go_wp2_with fail
  refine (zwj _ _ _ _ _ HO.out.slr).mono ?_
  rintro e w5 ⟨rfl, rfl⟩
  go_wp2
  go_ret
  have hf := own_strip HO.out Hd.out (Nat.le_refl _)
  rw [Hval.out] at hf
  exact ⟨_, _, _, rfl, hf, HB4.out⟩
set_option maxHeartbeats 1000000 in
theorem Shift_pos (A : Option Addr) (n c s : Nat) (a : List Int) (w : World) (ha : SlR .u32 w A n c a) (da : Nt.Dig a) (hn : n ≤ 1000000000) (hs : s ≤ 65536) :
  Calls Tryz.prog 79 #[.slice A n c, .int .i64 s] w fun e w' => ∃ A' n' c', e = .returned (.slice A' n' c') ∧ NatF w w' A' n' c' (Nt.val a * 2 ^ s).toNat ∧ Below w.heap.size w w' := by
 have lx : (Nt.strip a).length ≤ n := by rw [← ha.1]; exact Nt.zyh a
 have hx := ha.upto (m := (Nt.strip a).length) lx
 rw [← Nt.strip_take] at hx
 have hd := Nt.strip_dig da
 have hv := Nt.zwn a
 have hsd : decide (65536 < (s : Int)) = false := by simp; omega
 have hbl := Nt.bitl_le_len (Nt.strip a) hd
 have hraise := raise_any A (Nt.strip a).length c s (Nt.strip a) w hx hd xq hs
 have hbit := BitLen_any A (Nt.strip a).length c (Nt.strip a) w hx hd xq
 rw [hv] at hraise hbit hbl
 have hz : Nt.bitl (Nt.val a).toNat = 0 → Nt.val a = 0 := fun h => by
  have h1 := Nt.bitl_lt (Nt.val a).toNat
  have h2 := Nt.zxc da
  rw [h] at h1
  simp at h1
  omega
 generalize Nt.bitl (Nt.val a).toNat = B at *
 have hcut := zwj A n c a w ha
 generalize (Nt.strip a).length = m at *
 by_cases h0 : (s : Int) ≤ -(B : Int)
 ·have hz2 : Hid ((Nt.val a * 2 ^ s).toNat = 0) := by
   show _ = _
   rw [hz xq]; simp
  have hle : decide ((s : Int) ≤ -(B : Int)) = true := decide_eq_true h0
  clear hx ha hd hv hraise hz h0
  go_enter Tryz.func79, Tryz.ntmps79
  go_wp2_with fail
  refine hcut.mono ?_
  rintro e w1 ⟨rfl, rfl⟩
  go_wp2_with fail
  refine hbit.mono ?_
  rintro e w1 ⟨rfl, rfl⟩
  go_wp2
  go_ret
  refine ⟨none, 0, 0, rfl, ?_, Below.refl _ _⟩
  rw [hz2.out]
  exact ⟨by rw [Nt.zxa]; rfl, by rw [Nt.zxa]; exact SlR.nil _ _ _ (Nat.zero_le _), fun h => absurd h xq⟩
 ·have hle : decide ((s : Int) ≤ -(B : Int)) = false := decide_eq_false h0
  clear hx ha hd hv hz
  go_enter Tryz.func79, Tryz.ntmps79
  go_wp2_with fail
  refine hcut.mono ?_
  rintro e w1 ⟨rfl, rfl⟩
  go_wp2_with fail
  refine hbit.mono ?_
  rintro e w1 ⟨rfl, rfl⟩
  go_wp2_with fail
  refine hraise.mono ?_
  rintro e w1 ⟨A1, n1, c1, rfl, f1, hb1⟩
  have F1 := Lib.hid f1
  clear f1
  go_wp2
  go_ret
  exact ⟨A1, n1, c1, rfl, F1.out, hb1⟩
theorem k_natShift {u w : World} {x : Sl} {N K s : Nat} (d : Dat u w) (h1 : NatV u x N K) (hK : K ≤ 500000000) (hs : s ≤ 65536) : Calls Tryz.prog 79 #[x.v, .int .i64 (s : Int)] w (Post u w fun v u' => ∃ x : Sl, v = x.v ∧ NatN u' x (N * 2 ^ s) (K + s / 32 + 1)) := by
 have hs1 := h1.size
 obtain ⟨a, a1, a2, a3, a4⟩ := h1
 refine (Shift_pos _ _ _ _ _ _ (a1.ext d.ext) a2 xq hs).mono fun e w' ⟨A', n', c', h⟩ => ?_
 rw [a4] at h
 exact post_nat d (nat_fits h (by simp [Int.natCast_mul, Int.natCast_pow])) (Nt.dl_shift hs1)
set_option maxHeartbeats 1000000 in
theorem k_intDivP {u w : World} {i1 : IL} {y : Sl} {zN : Int} {M K L : Nat} (d : Dat u w) (hi : IntV u i1 zN K) (hy : NatV u y M L) (hM : 0 < M) (hK : K ≤ 100000000) (hL : L ≤ 100000000) : Calls Tryz.prog 180 #[i1.v, .agg #[.bool false, y.v]] w (Post u w fun v u' => ∃ i j : IL, v = .tuple #[i.v, j.v, .int .i64 0] ∧ IntN u' i (zN / (M : Int)) (K + 1) ∧ IntN u' j (zN % (M : Int)) L) := by
 have hL1 : 1 ≤ L := by have h2 := hy.size; have h3 := Nt.dl_mono (x := M) (y := 1) xq; rw [Nt.dl_one] at h3; omega
 obtain ⟨N, hN, hzN⟩ := hi
 refine zzl (args := [i1.v, .agg #[.bool false, .slice y.a y.n y.c]]) Tryz.func180 rfl Tryz.ntmps180 (rs := [.cell 4 24, .cell 5 24, .tmp 6]) Tryz.results180 (le_b rfl) (le_b rfl) d ?_
 refine sq9 (zzj 2 ⟨24, i1.cs⟩ (zzj 3 ⟨24, [.bool false, y.v]⟩ (zzj 4 ⟨24, [.bool false, .slice none 0 0]⟩ (zzj 5 ⟨24, [.bool false, .slice none 0 0]⟩ (zza 6 (zI 0) (zzb (sq9 (zza 11 (.adr 2 1) (zzh 12 (.v i1.m.v) ty22 zzk (zza 13 (.adr 3 1) (zzh 14 (.v y.v) ty22 zzk ?_)))))))))))
 refine zzg 15 80 [i1.m.v, y.v] ?_
 intro w11 u11 e11 d11
 have k18 := k_natDivMod d11 (hN.ext e11) (hy.ext e11) hM xq xq
 with_reducible refine zPm k18 ?_
 rintro _ u16 g17 ⟨x12, x13, rfl, h14, h15⟩
 refine zza 10 (.v (.tuple #[x12.v, x13.v, .int .i64 0])) (zza 16 (.v x12.v) (zza 17 (.v x13.v) (zza 18 (zI 0) (zza 7 (.v x12.v) (zza 8 (.v x13.v) (zza 9 (zI 0) (zzb (zzd (sq9 (zza 19 (zI 0) (zza 20 (zB false) ?_)))))))))))
 refine zzb (zyr xj (zzr (zzo ?_)))
 refine zzd (sq9 (zza 24 (.adr 2 0) (zzh 25 (zB i1.s) ty4 zzk ?_)))
 rcases Bool.eq_false_or_eq_true i1.s with hs19 | hs19
 ·refine zyp 26 (x := zB i1.s) (zB true) (by rw [hs19]) (zza 27 (.v x13.v) ?_ (hw := w1 2 true 26))
  refine zza 28 (zI x13.n) ?_ (hw := w1 2 true 26)
  refine zza 29 (zB (decide ((0 : Int) < (x13.n : Int)))) ?_ (hw := w1 2 true 26)
  refine zza 30 (zB (decide ((0 : Int) < (x13.n : Int)))) (zzb (zzt (b := decide ((0 : Int) < (x13.n : Int))) xj (fun hb20 => ?_) (fun hb20 => ?_)))
  ·replace hb20 : (decide ((0 : Int) < (x13.n : Int))) = true := hb20
   have qhb20 := of_decide_eq_true hb20
   refine sq9 (zza 31 (.v x12.v) (zxw 32 ⟨104, [.int .u32 1]⟩ 1 (fun b21 u22 e23 h24 => ?_)))
   refine zzg 33 155 [x12.v, .slice (some ⟨b21, 0, none⟩) 1 1] ?_
   intro w25 u25 e25 d25
   have k30 := k_natAdd d25 (h14.ext (e23.trans e25)).raw ((one_data h24).ext e25).raw xq xq
   with_reducible refine zPm k30 ?_
   rintro _ u28 g29 ⟨x26, rfl, h27⟩
   refine zza 7 (.v x26.v) (zzb (zzf (zza 34 (.adr 3 1) (zzh 35 (.v y.v) ty22 zzk (zza 36 (.v x13.v) (zzg 37 223 [y.v, x13.v] ?_))))))
   intro w31 u31 e31 d31
   have k36 := k_natSub d31 (hy.ext (e11.trans (g17.ext.trans (e23.trans (e25.trans (g29.ext.trans e31)))))) (h15.ext (e23.trans (e25.trans (g29.ext.trans e31)))).raw xq xq
   with_reducible refine zPm k36 ?_
   rintro _ u34 g35 ⟨x32, rfl, h33⟩
   refine zza 8 (.v x32.v) (zzc 47 [(2, .adr 2 0), (3, .adr 3 0), (4, .adr 4 0), (5, .adr 5 0), (7, .v x26.v), (8, .v x32.v)] [(2, ⟨24, i1.cs⟩), (3, ⟨24, [.bool false, y.v]⟩), (4, ⟨24, [.bool false, .slice none 0 0]⟩), (5, ⟨24, [.bool false, .slice none 0 0]⟩)] (sq9 (zza 38 (.adr 2 0) (zzh 39 (zB i1.s) ty4 zzk (zza 40 (.adr 3 0) (zzh 41 (zB false) ty4 zzk (zza 42 (zB (!(i1.s == false))) (zza 43 (.v x26.v) (zzg 44 222 [.bool (!(i1.s == false)), x26.v] ?_)))))))))
   intro w37 u37 e37 d37
   have k42 := k_signed d37 (s := !(i1.s == false)) (h27.ext (e31.trans (g35.ext.trans e37)))
   with_reducible refine zPm k42 ?_
   rintro _ u40 g41 ⟨i38, rfl, h39⟩
   refine zza 45 (.v x32.v) (zzg 46 222 [.bool false, x32.v] ?_)
   intro w43 u43 e43 d43
   have k48 := k_signed d43 (s := false) (h33.ext (e37.trans (g41.ext.trans e43)))
   with_reducible refine zPm k48 ?_
   rintro _ u46 g47 ⟨i44, rfl, h45⟩
   refine zzi ⟨24, i38.cs⟩ ty24 ?_
   refine zzi ⟨24, i44.cs⟩ ty24 ?_
   refine zza 6 (zI 0) (zzb (zzn (ret0 [i38.v, i44.v, .int .i64 0] ⟨zzq ty24 zze, zzq ty24 zze, zzp, trivial⟩ fun u49 e50 => ?_)))
   have hrp := h15.pos
   have e9 := hs19
   have key := Nt.rdiv1 (N := N) hM xq
   have g1 := (h39.ext (e43.trans (g47.ext.trans e50)))
   have g2 := (h45.ext e50)
   rw [e9] at g1
   rw [e9] at hzN
   have hK1 : 1 ≤ K := by have h2 := hN.size; have h3 := (Nt.dl_pos (x := N)).2 (by rcases Nat.eq_zero_or_pos N with e | e; (rw [e, Nat.zero_mod] at hrp; omega); exact e); omega
   rw [hzN]
   refine ⟨i38, i44, rfl, IntN.more (K := (max K 1 + 1)) ?_ xq, IntN.more (K := L) ?_ xq⟩
   ·rw [key.1]; exact g1
   ·rw [key.2]; exact g2
  ·replace hb20 : (decide ((0 : Int) < (x13.n : Int))) = false := hb20
   have qhb20 := of_decide_eq_false hb20
   refine zzr (zzo ?_)
   refine sq9 (zza 38 (.adr 2 0) (zzh 39 (zB i1.s) ty4 zzk (zza 40 (.adr 3 0) (zzh 41 (zB false) ty4 zzk (zza 42 (zB (!(i1.s == false))) (zza 43 (.v x12.v) (zzg 44 222 [.bool (!(i1.s == false)), x12.v] ?_)))))))
   intro w51 u51 e51 d51
   have k56 := k_signed d51 (s := !(i1.s == false)) (h14.ext e51)
   with_reducible refine zPm k56 ?_
   rintro _ u54 g55 ⟨i52, rfl, h53⟩
   refine zza 45 (.v x13.v) (zzg 46 222 [.bool false, x13.v] ?_)
   intro w57 u57 e57 d57
   have k62 := k_signed d57 (s := false) (h15.ext (e51.trans (g55.ext.trans e57)))
   with_reducible refine zPm k62 ?_
   rintro _ u60 g61 ⟨i58, rfl, h59⟩
   refine zzi ⟨24, i52.cs⟩ ty24 ?_
   refine zzi ⟨24, i58.cs⟩ ty24 ?_
   refine zza 6 (zI 0) (zzc 47 [(4, .adr 4 0), (5, .adr 5 0), (6, zI 0)] [(4, ⟨24, i52.cs⟩), (5, ⟨24, i58.cs⟩)] (zzn (ret0 [i52.v, i58.v, .int .i64 0] ⟨zzq ty24 zze, zzq ty24 zze, zzp, trivial⟩ fun u63 e64 => ?_)))
   have hrp := h15.pos
   have key := Nt.rdiv0 (s := i1.s) (N := N) hM (by rintro ⟨k1, k2⟩; omega)
   have g1 := (h53.ext (e57.trans (g61.ext.trans e64)))
   have g2 := (h59.ext e64)
   rw [hzN]
   refine ⟨i52, i58, rfl, IntN.more (K := K) ?_ xq, IntN.more (K := L) ?_ xq⟩
   ·rw [key.1]; exact g1
   ·rw [key.2]; exact g2
 ·refine zyp 26 (x := zB i1.s) (zB false) (by rw [hs19]) (zzm 27 (uw 2 true false 26) (zzm 28 (uw 2 true false 26) (zzm 29 (uw 2 true false 26) (zza 30 (zB false) (zzb (zyr xj (zzr (zzo ?_))))))))
  refine sq9 (zza 38 (.adr 2 0) (zzh 39 (zB i1.s) ty4 zzk (zza 40 (.adr 3 0) (zzh 41 (zB false) ty4 zzk (zza 42 (zB (!(i1.s == false))) (zza 43 (.v x12.v) (zzg 44 222 [.bool (!(i1.s == false)), x12.v] ?_)))))))
  intro w65 u65 e65 d65
  have k70 := k_signed d65 (s := !(i1.s == false)) (h14.ext e65)
  with_reducible refine zPm k70 ?_
  rintro _ u68 g69 ⟨i66, rfl, h67⟩
  refine zza 45 (.v x13.v) (zzg 46 222 [.bool false, x13.v] ?_)
  intro w71 u71 e71 d71
  have k76 := k_signed d71 (s := false) (h15.ext (e65.trans (g69.ext.trans e71)))
  with_reducible refine zPm k76 ?_
  rintro _ u74 g75 ⟨i72, rfl, h73⟩
  refine zzi ⟨24, i66.cs⟩ ty24 ?_
  refine zzi ⟨24, i72.cs⟩ ty24 ?_
  refine zza 6 (zI 0) (zzc 47 [(4, .adr 4 0), (5, .adr 5 0), (6, zI 0)] [(4, ⟨24, i66.cs⟩), (5, ⟨24, i72.cs⟩)] (zzn (ret0 [i66.v, i72.v, .int .i64 0] ⟨zzq ty24 zze, zzq ty24 zze, zzp, trivial⟩ fun u77 e78 => ?_)))
  have hrp := h15.pos
  have key := Nt.rdiv0 (s := i1.s) (N := N) hM (by rintro ⟨k1, k2⟩; rw [k1] at hs19; exact absurd hs19 xw)
  have g1 := (h67.ext (e71.trans (g75.ext.trans e78)))
  have g2 := (h73.ext e78)
  rw [hzN]
  refine ⟨i66, i72, rfl, IntN.more (K := K) ?_ xq, IntN.more (K := L) ?_ xq⟩
  ·rw [key.1]; exact g1
  ·rw [key.2]; exact g2
theorem k_double {u w : World} {i : IL} {z : Int} {K s : Nat} (d : Dat u w) (hi : IntV u i z K) (hK : K ≤ 100000000) (hs : s ≤ 65536) : Calls Tryz.prog 242 #[i.v, .int .i64 (s : Int)] w (Post u w fun v u' => ∃ y : Sl, v = .agg #[.bool i.s, y.v] ∧ IntV u' ⟨i.s, y⟩ (z * ((2 ^ s : Nat) : Int)) (K + s / 32 + 1)) := by
 refine zzl (args := [i.v, .int .i64 s]) Tryz.func242 rfl Tryz.ntmps242 (rs := [.cell 4 24]) Tryz.results242 (le_b rfl) (le_b rfl) d ?_
 refine sq9 (zzj 2 ⟨24, i.cs⟩ (zzj 4 ⟨24, [.bool false, .slice none 0 0]⟩ (zzb (zzd (zzy [0, 1, 0, 4, 0, 28, 63, 127] [(0, []), (1, []), (2, []), (3, []), (4, []), (5, []), (6, []), (7, [])] xj xj (zza 5 (.adr 2 0) (zzh 6 (zB i.s) ty4 zzk (zza 7 (.adr 2 1) (zzh 8 (.v i.m.v) ty22 zzk (zza 9 (zI s) (zzg 10 79 [i.m.v, .int .i64 s] ?_)))))))))))
 intro w11 u11 e11 d11
 have k16 := k_natShift (s := s) d11 ((IntV.abs hi).ext e11) xq xq
 with_reducible refine zPm k16 ?_
 rintro _ u14 g15 ⟨x12, rfl, h13⟩
 refine zza 11 (.v (.agg #[.bool i.s, x12.v])) (zzi ⟨24, [.bool i.s, x12.v]⟩ ty24 ?_)
 refine zzb (zzn (ret0 [.agg #[.bool i.s, .slice x12.a x12.n x12.c]] ⟨zzq ty24 zze, trivial⟩ fun u17 e18 => ?_))
 obtain ⟨N9, hN9, hz9⟩ := hi
 refine ⟨x12, rfl, ?_⟩
 rw [hz9, ← Nt.sg_mulN]
 have h9 := IntV.same (s := i.s) (h13.ext e18).raw
 rw [hz9] at h9
 exact h9
theorem k_onGrid {u w : World} {i : IL} {y : Sl} {z : Int} {D K L s : Nat} (d : Dat u w) (hi : IntV u i z K) (hy : NatV u y D L) (hD : 0 < D) (hK : K ≤ 10000000) (hL : L ≤ 10000000) (hs : s ≤ 65536) : Calls Tryz.prog 243 #[i.v, y.v, .int .i64 (s : Int)] w (Post u w fun v u' => ∃ r : RL, v = r.v ∧ RatN u' r (mkRat (z / (D : Int)) (2 ^ s)) (K + s / 32 + 3)) := by
 have hp2 : 0 < 1 * 2 ^ s := by rw [Nat.one_mul]; exact Nat.pow_pos xw
 refine zzl (args := [i.v, .slice y.a y.n y.c, .int .i64 s]) Tryz.func243 rfl Tryz.ntmps243 (rs := [.cell 6 26]) Tryz.results243 (le_b rfl) (le_b rfl) d ?_
 refine sq9 (zzj 3 ⟨24, i.cs⟩ (zzj 6 ⟨26, [.bool false, .slice none 0 0, .slice none 0 0]⟩ (zzb (zzd (zzy [0, 0, 2, 7, 15, 31, 31, 31, 0, 0, 831, 1919, 4095] [(0, []), (1, []), (8, []), (9, []), (2, []), (3, []), (4, []), (5, []), (6, []), (7, []), (10, []), (11, []), (12, [])] xj xj (zzh 11 (.v (i.v)) ty24 zze (zza 12 (.v y.v) (zzj 7 ⟨24, [.bool false, .slice none 0 0]⟩ (zzj 8 ⟨24, [.bool false, .slice none 0 0]⟩ (zzg 13 195 [y.v] ?_))))))))))
 intro w11 u11 e11 d11
 have k14 := k_natural (x := y) d11
 with_reducible refine zPm k14 ?_
 rintro _ u12 g13 rfl
 refine zzg 14 180 [i.v, .agg #[.bool false, y.v]] ?_
 intro w15 u15 e15 d15
 have k22 := k_intDivP d15 (hi.ext (e11.trans (g13.ext.trans e15))) (hy.ext (e11.trans (g13.ext.trans e15))) hD xq xq
 with_reducible refine zPm k22 ?_
 rintro _ u20 g21 ⟨i16, i18, rfl, h17, h19⟩
 refine zza 10 (.v (.tuple #[i16.v, i18.v, .int .i64 0])) (zza 15 (.v (i16.v)) (zza 16 (.v (i18.v)) (zza 17 (zI 0) (zzi ⟨24, i16.cs⟩ ty24 ?_))))
 refine zzi ⟨24, i18.cs⟩ ty24 ?_
 refine zza 9 (zI 0) (zzb (zzd (zzy [0, 0, 0, 6, 15, 31, 63] [(0, []), (1, []), (2, []), (3, [19]), (4, []), (5, []), (6, [])] xj xj (zzh 18 (.v (i16.v)) ty24 zze (sy_lit 19 ⟨104, [.int .u32 1]⟩ 1 ?_)))))
 refine zza 20 (zI s) (zyn 21 79 [.slc 19 0 1 1, zI s] [19] (.inr rfl) (pub_mk xk) (k := ?_))
 intro B23 w23 u23 e23 d23 v23
 have h25 : u23.heap[B23 19]? = some (.cells #[.int .u32 1] 104 (0, 0)) := v23 19 (by simp) _ rfl
 obtain ⟨b24, hBb24⟩ : ∃ b, B23 19 = b := ⟨_, rfl⟩
 rw [hBb24] at h25
 show Calls _ _ #[.slice (some ⟨B23 19, 0, none⟩) 1 1, .int .i64 (s : Int)] _ _
 rw [hBb24]
 have k30 := k_natShift (s := s) d23 (one_data h25).raw xq xq
 with_reducible refine zPm k30 ?_
 rintro _ u28 g29 ⟨x26, rfl, h27⟩
 refine zza 22 (.v (.agg #[.bool i16.s, i16.m.v, x26.v])) (zzg 23 148 [.agg #[.bool i16.s, i16.m.v, x26.v]] ?_)
 intro w31 u31 e31 d31
 have k36 := k_lowest d31 (h17.ext (e23.trans (g29.ext.trans e31))).raw (h27.ext e31).raw hp2 xq xq
 with_reducible refine zPm k36 ?_
 rintro _ u34 g35 ⟨r32, rfl, h33⟩
 refine zzi ⟨26, r32.cs⟩ ty26 ?_
 refine zzb (zzn (ret0 [r32.v] ⟨zzq ty26 zze, trivial⟩ fun u37 e38 => ?_))
 refine ⟨r32, rfl, RatN.more (K := (max (K + 1) (1 + s / 32 + 1))) ?_ xq⟩
 have h9 := (h33.ext e38)
 rw [Nat.one_mul] at h9
 exact h9
set_option maxHeartbeats 1000000 in
theorem k_downG {u w : World} {r : RL} {q : Rat} {K : Nat} {k : Nat} (hk : k ≤ 256) (d : Dat u w) (hr : RatV u r q K) (hK : K ≤ 1000000) : Calls Tryz.prog 252 #[r.v, .int .i64 (k : Int)] w (Post u w fun v u' => ∃ p : RL, v = .tuple #[p.v, .int .i64 0] ∧ RatN u' p (Nt.dnQ q k) (K + 20)) := by
 refine zzl (args := [r.v, .int .i64 k]) Tryz.func252 rfl Tryz.ntmps252 (rs := [.cell 4 26, .tmp 5]) Tryz.results252 (le_b rfl) (le_b rfl) d ?_
 refine sq9 (zzj 2 ⟨26, r.cs⟩ (zzj 4 ⟨26, [.bool false, .slice none 0 0, .slice none 0 0]⟩ (zza 5 (zI 0) (zzb (zzd (sq9 (zza 7 (zI k) (zza 8 (zB (decide ((k : Int) < 0))) (zyp 9 (x := zB (decide ((k : Int) < 0))) (zB false) (by rw [show (decide ((k : Int) < 0)) = false from decide_eq_false xq]) (zza 10 (zI k) ?_ (hw := w1 2 false 9)))))))))))
 refine zza 11 (zB (decide ((256 : Int) < (k : Int)))) ?_ (hw := w1 2 false 9)
 refine zza 12 (zB (decide ((256 : Int) < (k : Int)))) (zzb (zzt (b := decide ((256 : Int) < (k : Int))) xj (fun hb => ?_) (fun hb => ?_)))
 ·exact absurd hb (by rw [show (decide ((256 : Int) < (k : Int))) = false from decide_eq_false xq]; decide)
 ·clear hb
  refine zzr (zzo ?_)
  refine sq9 (zzh 14 (.v (r.v)) ty26 zze (zzg 15 147 [r.v] ?_))
  intro w12 u12 e12 d12
  have k16 := k_read d12 (hr.ext e12)
  with_reducible refine zPm k16 ?_
  rintro _ u14 g15 ⟨r13, wh13, rfl, z13, D13, hi13, hd13, hp13, hq13, hw13, hk13⟩
  refine zzj 6 ⟨149, [.bool false, .slice none 0 0, .slice none 0 0, .bool false]⟩ (zzi ⟨149, r13.cs ++ [.bool wh13]⟩ ty149 ?_)
  refine zzb (zzd (zzy [0, 1, 3, 0, 15, 0, 32, 96, 0, 511, 1023, 2047] [(0, []), (1, []), (2, []), (3, []), (5, []), (6, []), (7, []), (8, []), (4, []), (9, []), (10, []), (11, [])] xj xj (zza 16 (.adr 6 0) (zza 17 (.adr 6 0) (zzh 18 (.v (.agg #[.bool r13.s, r13.m.v])) ty24 zze (zza 19 (zI k) (zza 21 (.adr 6 0) (zza 22 (.adr 6 2) (zzh 23 (.v r13.d.v) ty22 zzk (zza 24 (zI k) (zzg 20 242 [.agg #[.bool r13.s, r13.m.v], .int .i64 k] ?_)))))))))))
  intro w17 u17 e17 d17
  have k22 := k_double (s := k) d17 (hi13.ext e17) xq xq
  with_reducible refine zPm k22 ?_
  rintro _ u20 g21 ⟨y18, rfl, h19⟩
  refine zzg 25 243 [.agg #[.bool r13.s, y18.v], r13.d.v, .int .i64 k] ?_
  intro w23 u23 e23 d23
  have k28 := k_onGrid (s := k) d23 (h19.ext e23) (hd13.ext (e17.trans (g21.ext.trans e23))) hp13 xq xq xq
  with_reducible refine zPm k28 ?_
  rintro _ u26 g27 ⟨r24, rfl, h25⟩
  refine zzi ⟨26, r24.cs⟩ ty26 ?_
  refine zza 5 (zI 0) (zzb (zzn (ret0 [r24.v, .int .i64 0] ⟨zzq ty26 zze, zzp, trivial⟩ fun u29 e30 => ?_)))
  refine ⟨r24, rfl, RatN.more (K := ((K + k / 32 + 1) + k / 32 + 3)) ?_ xq⟩
  rw [hq13, Nt.dn_mk hp13]
  exact (h25.ext e30)
set_option maxHeartbeats 1000000 in
theorem k_upG {u w : World} {r : RL} {q : Rat} {K : Nat} {k : Nat} (hk : k ≤ 256) (d : Dat u w) (hr : RatV u r q K) (hK : K ≤ 1000000) : Calls Tryz.prog 253 #[r.v, .int .i64 (k : Int)] w (Post u w fun v u' => ∃ p : RL, v = .tuple #[p.v, .int .i64 0] ∧ RatN u' p (-Nt.dnQ (-q) k) (K + 20)) := by
 refine zzl (args := [r.v, .int .i64 k]) Tryz.func253 rfl Tryz.ntmps253 (rs := [.cell 4 26, .tmp 5]) Tryz.results253 (le_b rfl) (le_b rfl) d ?_
 refine sq9 (zzj 2 ⟨26, r.cs⟩ (zzj 4 ⟨26, [.bool false, .slice none 0 0, .slice none 0 0]⟩ (zza 5 (zI 0) (zzb (sq9 (zzh 9 (.v (r.v)) ty26 zze (zzg 10 226 [r.v] ?_)))))))
 intro w11 u11 e11 d11
 have k14 := k_flip (r := r) d11
 with_reducible refine zPm k14 ?_
 rintro _ u12 g13 rfl
 refine zza 11 (zI k) (zzg 12 252 [.agg #[.bool (!r.s), r.m.v, r.d.v], .int .i64 k] ?_)
 intro w15 u15 e15 d15
 have k20 := k_downG (k := k) xq d15 ((flip_rat (hr.ext (e11.trans g13.ext))).ext e15) xq
 with_reducible refine zPm k20 ?_
 rintro _ u18 g19 ⟨r16, rfl, h17⟩
 refine zza 8 (.v (.tuple #[r16.v, .int .i64 0])) (zza 13 (.v (r16.v)) (zza 14 (zI 0) (zzj 6 ⟨26, [.bool false, .slice none 0 0, .slice none 0 0]⟩ (zzi ⟨26, r16.cs⟩ ty26 ?_))))
 refine zza 7 (zI 0) (zzb (zzd (sq9 (zza 15 (zI 0) (zza 16 (zB false) (zzb (zyr xj (zzr (zzo ?_)))))))))
 refine sq9 (zzh 19 (.v (r16.v)) ty26 zze (zzg 20 176 [r16.v] ?_))
 intro w21 u21 e21 d21
 have k26 := k_ratNeg d21 (h17.ext e21).raw xq
 with_reducible refine zPm k26 ?_
 rintro _ u24 g25 ⟨r22, rfl, h23⟩
 refine zzi ⟨26, r22.cs⟩ ty26 ?_
 refine zza 5 (zI 0) (zzb (zzn (ret0 [r22.v, .int .i64 0] ⟨zzq ty26 zze, zzp, trivial⟩ fun u27 e28 => ?_)))
 refine ⟨r22, rfl, RatN.more (K := (K + 20)) ?_ xq⟩
 exact (h23.ext e28)
namespace Nt
def divO (x1 x2 y1 y2 : Rat) : Option (Rat × Rat) := if sgI y1 y2 = 0 then none else some (lo4 (x1 / y1) (x1 / y2) (x2 / y1) (x2 / y2), hi4 (x1 / y1) (x1 / y2) (x2 / y1) (x2 / y2))
def divE (y1 y2 : Rat) : Int := if sgI y1 y2 = 0 then 3 else 0
def rndO (x1 x2 : Rat) (n : Int) : Option (Rat × Rat) := if n < 0 ∨ 256 < n then none else some (dnQ (lo x1 x2) n.toNat, -dnQ (-hi x1 x2) n.toNat)
def rndE (n : Int) : Int := if n < 0 ∨ 256 < n then 1 else 0
end Nt
def OptI (u : World) (a b : RL) (o : Option (Rat × Rat)) (K : Nat) : Prop := match o with | none => a = rl0 ∧ b = rl0 | some (p, q) => RatN u a p K ∧ RatN u b q K
theorem OptI.ext {u u' : World} {a b : RL} {o : Option (Rat × Rat)} {K : Nat} (h : OptI u a b o K) (e : Ext u u') : OptI u' a b o K := by
 cases o with
 | none => exact h
 | some x => exact ⟨h.1.ext e, h.2.ext e⟩
theorem k_ivDivO {u w : World} {a1 a2 b1 b2 : RL} {x1 x2 y1 y2 : Rat} {K L : Nat} (d : Dat u w) (ha1 : RatV u a1 x1 K) (ha2 : RatV u a2 x2 K) (hb1 : RatV u b1 y1 L) (hb2 : RatV u b2 y2 L) (hK : K ≤ 4000000) (hL : L ≤ 4000000) : Calls Tryz.prog 136 #[IV a1 a2, IV b1 b2] w (Post u w fun v u' => ∃ p q : RL, v = .tuple #[IV p q, .int .i64 (Nt.divE y1 y2)] ∧ OptI u' p q (Nt.divO x1 x2 y1 y2) (K + L + 20)) :=
 Post.mono (k_ivDiv d ha1 ha2 hb1 hb2 xq xq) fun v u' _ h => by
  rcases h with ⟨h0, h1⟩ | ⟨h0, p, q, h1, h2, h3⟩
  ·exact ⟨rl0, rl0, by unfold Nt.divE; rw [if_pos h0, h1]; rfl, by unfold Nt.divO; rw [if_pos h0]; exact ⟨rfl, rfl⟩⟩
  ·exact ⟨p, q, by unfold Nt.divE; rw [if_neg h0, h1], by unfold Nt.divO; rw [if_neg h0]; exact ⟨h2.more xq, h3.more xq⟩⟩
set_option maxHeartbeats 1000000 in
theorem k_ivRoundG {u w : World} {a1 a2 : RL} {x1 x2 : Rat} {K : Nat} {k : Nat} (hk : k ≤ 256) (d : Dat u w) (ha1 : RatV u a1 x1 K) (ha2 : RatV u a2 x2 K) (hK : K ≤ 100000) : Calls Tryz.prog 227 #[IV a1 a2, .int .i64 (k : Int)] w (Post u w fun v u' => ∃ p q : RL, v = .tuple #[IV p q, .int .i64 (Nt.rndE (k : Int))] ∧ OptI u' p q (Nt.rndO x1 x2 (k : Int)) (K + 70)) := by
 refine zzl (args := [.agg #[.bool a1.s, .slice a1.m.a a1.m.n a1.m.c, .slice a1.d.a a1.d.n a1.d.c, .bool a2.s, .slice a2.m.a a2.m.n a2.m.c, .slice a2.d.a a2.d.n a2.d.c], .int .i64 k]) Tryz.func227 rfl Tryz.ntmps227 (rs := [.cell 4 32, .tmp 5]) Tryz.results227 (le_b rfl) (le_b rfl) d ?_
 refine sq9 (zzj 2 ⟨32, a1.cs ++ a2.cs⟩ (zzj 4 ⟨32, [.bool false, .slice none 0 0, .slice none 0 0, .bool false, .slice none 0 0, .slice none 0 0]⟩ (zza 5 (zI 0) (zzb (zzd (sq9 (zza 12 (zI k) (zza 13 (zB (decide ((k : Int) < 0))) (zyp 14 (x := zB (decide ((k : Int) < 0))) (zB false) (by rw [show (decide ((k : Int) < 0)) = false from decide_eq_false xq]) (zza 15 (zI k) ?_ (hw := w1 2 false 14)))))))))))
 refine zza 16 (zB (decide ((256 : Int) < (k : Int)))) ?_ (hw := w1 2 false 14)
 refine zza 17 (zB (decide ((256 : Int) < (k : Int)))) (zzb (zzt (b := decide ((256 : Int) < (k : Int))) xj (fun hb => ?_) (fun hb => ?_)))
 ·exact absurd hb (by rw [show (decide ((256 : Int) < (k : Int))) = false from decide_eq_false xq]; decide)
 ·clear hb
  refine zzr (zzo ?_)
  refine sq9 (zzh 20 (.v (.agg #[.bool a1.s, a1.m.v, a1.d.v, .bool a2.s, a2.m.v, a2.d.v])) ty32 zze (zzg 21 208 [.agg #[.bool a1.s, a1.m.v, a1.d.v, .bool a2.s, a2.m.v, a2.d.v]] ?_))
  intro w12 u12 e12 d12
  have k19 := k_ends d12 (ha1.ext e12) (ha2.ext e12) xq
  with_reducible refine zPm k19 ?_
  rintro _ u17 g18 ⟨r13, r15, rfl, h14, h16⟩
  refine zza 19 (.v (.tuple #[r13.v, r15.v])) (zza 22 (.v (r13.v)) (zza 23 (.v (r15.v)) (zzj 6 ⟨26, [.bool false, .slice none 0 0, .slice none 0 0]⟩ (zzj 7 ⟨26, [.bool false, .slice none 0 0, .slice none 0 0]⟩ (zzi ⟨26, r13.cs⟩ ty26 ?_)))))
  refine zzi ⟨26, r15.cs⟩ ty26 ?_
  refine zzb (sq9 (zzh 25 (.v (r13.v)) ty26 zze (zza 26 (zI k) (zzg 27 252 [r13.v, .int .i64 k] ?_))))
  intro w20 u20 e20 d20
  have k25 := k_downG (k := k) xq d20 (h14.ext e20) xq
  with_reducible refine zPm k25 ?_
  rintro _ u23 g24 ⟨r21, rfl, h22⟩
  refine zza 24 (.v (.tuple #[r21.v, .int .i64 0])) (zza 28 (.v (r21.v)) (zza 29 (zI 0) (zzj 8 ⟨26, [.bool false, .slice none 0 0, .slice none 0 0]⟩ (zzi ⟨26, r21.cs⟩ ty26 ?_))))
  refine zza 9 (zI 0) (zzb (sq9 (zzh 31 (.v (r15.v)) ty26 zze (zza 32 (zI k) (zzg 33 253 [r15.v, .int .i64 k] ?_)))))
  intro w26 u26 e26 d26
  have k31 := k_upG (k := k) xq d26 (h16.ext (e20.trans (g24.ext.trans e26))) xq
  with_reducible refine zPm k31 ?_
  rintro _ u29 g30 ⟨r27, rfl, h28⟩
  refine zza 30 (.v (.tuple #[r27.v, .int .i64 0])) (zza 34 (.v (r27.v)) (zza 35 (zI 0) (zzj 10 ⟨26, [.bool false, .slice none 0 0, .slice none 0 0]⟩ (zzi ⟨26, r27.cs⟩ ty26 ?_))))
  refine zza 11 (zI 0) (zzc 39 [(4, .adr 4 0), (8, .adr 8 0), (10, .adr 10 0)] [(4, ⟨32, [.bool false, .slice none 0 0, .slice none 0 0, .bool false, .slice none 0 0, .slice none 0 0]⟩), (8, ⟨26, r21.cs⟩), (10, ⟨26, r27.cs⟩)] (sq9 (zzh 36 (.v (r21.v)) ty26 zze (zzh 37 (.v (r27.v)) ty26 zze (zza 38 (.v (.agg #[.bool r21.s, r21.m.v, r21.d.v, .bool r27.s, r27.m.v, r27.d.v])) (zzi ⟨32, r21.cs ++ r27.cs⟩ ty32 ?_))))))
  refine zza 5 (zI 0) (zzb (zzn (ret0 [.agg #[.bool r21.s, .slice r21.m.a r21.m.n r21.m.c, .slice r21.d.a r21.d.n r21.d.c, .bool r27.s, .slice r27.m.a r27.m.n r27.m.c, .slice r27.d.a r27.d.n r27.d.c], .int .i64 0] ⟨zzq ty32 zze, zzp, trivial⟩ fun u32 e33 => ?_)))
  have h9 : ¬ ((k : Int) < 0 ∨ 256 < (k : Int)) := by omega
  refine ⟨r21, r27, by unfold Nt.rndE; rw [if_neg h9]; rfl, ?_⟩
  unfold Nt.rndO
  rw [if_neg h9, Int.toNat_natCast]
  exact ⟨RatN.more (K := (K + 20)) (h22.ext (e26.trans (g30.ext.trans e33))) xq, RatN.more (K := (K + 20)) (h28.ext e33) xq⟩
@[reducible] def SP (a b : IL) : Value := .agg #[.bool a.s, .slice a.m.a a.m.n a.m.c, .bool b.s, .slice b.m.a b.m.n b.m.c]
namespace Nt
theorem pw_u2 (k : Nat) : pw k = u2 (32 * k) := by
 induction k with
 | zero => rfl
 | succ k ih =>
  have h : u2 (32 * (k + 1)) = u2 (32 * k) * u2 32 := by rw [← u2_add]; rfl
  have e : u2 32 = 4294967296 := by decide +kernel
  show 4294967296 * pw k = _
  rw [ih, h, e, Int.mul_comm]
theorem dl_u2 {z : Int} {L b : Nat} (h0 : -(u2 b) ≤ z) (h1 : z ≤ u2 b) (h : b < 32 * L) : dl z.natAbs ≤ L := by
 refine dl_le ?_
 rw [pw_u2]
 have h2 := u2_mono (a := b + 1) (b := 32 * L) xq
 have h3 : u2 (b + 1) = u2 b * 2 := u2_add b 1
 have h4 := u2_pos b
 omega
theorem big {w : Nat} (hw : w ≤ 800) : 8 * u2 w + 1152921504606846976 ≤ u2 1000 := by
 have h1 := u2_mono hw
 have h2 : 8 * u2 800 + 1152921504606846976 ≤ u2 1000 := by decide +kernel
 omega
theorem cmp_le (x y : Int) : decide (cmpS x y ≤ 0) = decide (x ≤ y) := by
 rw [decide_eq_decide]
 rcases cmp_range x y with ⟨e, h⟩ | ⟨e, h⟩ | ⟨e, h⟩ <;> rw [e] <;> omega
theorem cmp_ne (x y : Int) : (cmpS x y != 0) = decide (x ≠ y) := by
 rcases cmp_range x y with ⟨e, h⟩ | ⟨e, h⟩ | ⟨e, h⟩ <;> rw [e] <;> simp <;> omega
theorem csW_le {w : Nat} (hw : w ≤ 800) : csW w * ((w : Int) + 4) + 2 ≤ 1000000000 ∧ 0 ≤ csW w * ((w : Int) + 2) ∧ csW w * ((w : Int) + 2) ≤ 1000000000 := by
 have h0 : 0 ≤ csW w := by unfold csW; omega
 have h1 : csW w ≤ 411211 := by unfold csW; omega
 have h2 := Int.mul_le_mul h1 (show (w : Int) + 4 ≤ 804 by omega) xq xw
 have h3 := Int.mul_le_mul_of_nonneg_left (show (w : Int) + 2 ≤ (w : Int) + 4 by omega) h0
 have h4 := Int.mul_nonneg h0 (show 0 ≤ (w : Int) + 2 by omega)
 omega
theorem width_lt {lo hi : Int} {g w : Nat} (h : hi - lo ≤ 1000000000) (hw : g + 37 ≤ w) : hi - lo < u2 (w - g) := by
 have h1 := u2_mono (a := 37) (b := w - g) xq
 have h2 : u2 37 = 137438953472 := by decide +kernel
 omega
theorem atR_bd {n w : Nat} {a b : Int} (h : AtR n w a b) (hn : 0 < n) : -(5 * (w : Int) + 8) ≤ a ∧ a ≤ u2 w ∧ 0 ≤ b ∧ b ≤ u2 w + 5 * (w : Int) + 8 ∧ a ≤ b := by
 obtain ⟨⟨N, h1⟩, h2⟩ := h
 have h3 := h1 (N + 1) xq
 have k1 := atT_b (n := n) hn (m := N + 1) xq
 have k2 := atT_le hn 0
 have hU := castI_pos (u2_pos w)
 have h4 : alt (atT n) (N + 1) ≤ 1 := by
  refine Rat.le_trans k1.2 ?_
  refine Rat.le_trans (div_le_self (atP_nn hn 0) (cast_one xq)) ?_
  show 1 / (n : Rat) ≤ 1
  exact div_le_self xw (cast_one hn)
 have h5 := h3.lo_le (c := u2 w) (by
  have := Rat.mul_le_mul_of_nonneg_right h4 (Rat.le_of_lt hU)
  rwa [Rat.one_mul] at this)
 have h6 := h3.nonneg (by grind) (u2_pos w)
 have := h3.le
 omega
theorem coD_mul {j : Nat} (h : j ≤ 1000) : IntKind.i64.wrap (((2 * j + 2 : Nat) : Int) * ((2 * j + 2 - 1 : Nat) : Int)) = coD j ∧ coD j ≤ 10000000 := by
 have h1 := Nat.mul_le_mul (show 2 * j + 2 ≤ 2002 by omega) (show 2 * j + 1 ≤ 2001 by omega)
 have e : ((2 * j + 2 : Nat) : Int) * ((2 * j + 2 - 1 : Nat) : Int) = coD j := by
  unfold coD
  rw [Int.natCast_mul, show 2 * j + 2 - 1 = 2 * j + 1 by omega]
 have h2 : coD j ≤ 10000000 := by unfold coD; omega
 have h3 := coD_pos j
 rw [e]
 exact ⟨IntWalk.i64_in _ xq, h2⟩
theorem csR_bd {p q w : Nat} {a b : Int} (h : CsR p q w a b) (h0 : 0 < q) (hp : 2 * p ≤ q) (hw : w ≤ 800) : -(3 * u2 w) - 1000000000 ≤ a ∧ a ≤ 3 * u2 w ∧ -(3 * u2 w) ≤ b ∧ b ≤ 3 * u2 w + 1000000000 ∧ a ≤ b ∧ b - a ≤ 1000000000 := by
 have h9 := csW_le hw
 obtain ⟨⟨N, h1⟩, h2⟩ := h
 have h3 := h1 (N + 1) xq
 have h4 := cs_bd (N := N) (m := N + 1) h0 hp xq xq h3
 have := h3.le
 omega
theorem flo_of {X : Nat → Rat} {b w : Nat} {lo hi : Int} (h : ∃ N : Nat, ∀ m, N ≤ m → Enc (u2 w) lo hi (X m)) (hb : b ≤ w) (he : (cmpS (lo / u2 (w - b)) (hi / u2 (w - b)) != 0) = false) : lo / u2 (w - b) = flo X b := by
 rw [cmp_ne] at he
 have h1 : lo / u2 (w - b) = hi / u2 (w - b) := by simpa using he
 exact (FlO.of h hb rfl h1.symm).flo.symm
theorem not_yet {X : Nat → Rat} {b g w : Nat} {lo hi : Int} (hg : Gap X b g) (h : ∃ N : Nat, ∀ m, N ≤ m → Enc (u2 w) lo hi (X m)) (hw : hi - lo ≤ 1000000000) (he : (cmpS (lo / u2 (w - b)) (hi / u2 (w - b)) != 0) = true) : w < g + 37 := by
 rcases Nat.lt_or_ge w (g + 37) with k | k
 ·exact k
 ·have := hg.decides h xq (width_lt hw k)
  rw [cmp_ne] at he
  exact absurd this (by simpa using he)
theorem dnQ_int (z : Int) (b : Nat) : dnQ (z : Rat) b = (z : Rat) := by
 unfold dnQ
 have e : (z : Rat) * ((2 ^ b : Nat) : Rat) = ((z * ((2 ^ b : Nat) : Int) : Int) : Rat) := by rw [Rat.intCast_mul]; rfl
 have f : flr ((z * ((2 ^ b : Nat) : Int) : Int) : Rat) = z * ((2 ^ b : Nat) : Int) := by
  unfold flr
  show (z * ((2 ^ b : Nat) : Int)) / ((1 : Nat) : Int) = _
  exact Int.ediv_one _
 have hp : (2 ^ b : Nat) ≠ 0 := by have := Nat.pow_pos (n := b) (show 0 < 2 by decide); omega
 rw [e, f, Rat.mkRat_eq_div, Rat.intCast_mul]
 show (z : Rat) * ((2 ^ b : Nat) : Rat) / ((2 ^ b : Nat) : Rat) = _
 have : ((2 ^ b : Nat) : Rat) ≠ 0 := by
  have := cast_pos (Nat.pow_pos (n := b) (show 0 < 2 by decide))
  grind
 generalize ((2 ^ b : Nat) : Rat) = x at *
 grind
theorem rnd_pt {q : Rat} {k : Nat} (hk : k ≤ 256) : rndO (lo q q) (hi q q) (k : Int) = some (dnQ q k, -dnQ (-q) k) := by
 unfold rndO
 have e := lo_of_le (Rat.le_refl (a := q))
 rw [if_neg (show ¬ ((k : Int) < 0 ∨ 256 < (k : Int)) by omega), e.1, e.2, e.1, e.2, Int.toNat_natCast]
theorem cosA_0 {r q b : Nat} (h : r = 0) : cosA r q b = (dnQ ((1 : Int) : Rat) b, -dnQ (-((1 : Int) : Rat)) b) := by
 have e : -((1 : Int) : Rat) = ((-1 : Int) : Rat) := rfl
 unfold cosA
 rw [if_pos h, dnQ_int, e, dnQ_int]; rfl
theorem cosA_h {r q b : Nat} (h : ¬ r = 0) (h2 : 2 * r = q) : cosA r q b = (dnQ ((0 : Int) : Rat) b, -dnQ (-((0 : Int) : Rat)) b) := by
 have e : -((0 : Int) : Rat) = ((0 : Int) : Rat) := rfl
 unfold cosA
 rw [if_neg h, if_pos h2, e, dnQ_int]; rfl
theorem cosA_3 {r q b : Nat} (h : ¬ r = 0) (h2 : ¬ 2 * r = q) (h3 : 3 * r = q) : cosA r q b = (dnQ (((1 : Int) : Rat) / ((2 : Int) : Rat)) b, -dnQ (-(((1 : Int) : Rat) / ((2 : Int) : Rat))) b) := by
 unfold cosA
 rw [if_neg h, if_neg h2, if_pos h3]; rfl
theorem cosA_g {r q b : Nat} (h : ¬ r = 0) (h2 : ¬ 2 * r = q) (h3 : ¬ 3 * r = q) : cosA r q b = (gr b (flo (coN r q) b), gr b (flo (coN r q) b + 1)) := by
 unfold cosA
 rw [if_neg h, if_neg h2, if_neg h3]
theorem cosV_lo {p : Int} {q b r : Nat} (h : fold p q = r) (h2 : ¬ q < 2 * r) : cosV p q b = cosA r q b := by
 unfold cosV cosF; rw [h, if_neg h2]
theorem cosV_hi {p : Int} {q b r : Nat} (h : fold p q = r) (h2 : q < 2 * r) : cosV p q b = (-(cosA (q - r) q b).2, -(cosA (q - r) q b).1) := by
 unfold cosV cosF; rw [h, if_pos h2]
theorem fold_id {r q : Nat} (h : r ≤ q) : fold (r : Int) q = r := by
 unfold fold
 dsimp only
 rcases Nat.eq_zero_or_pos q with h0 | h0
 ·have : r = 0 := by omega
  subst this; subst h0; rfl
 ·rw [Int.tmod_eq_of_lt xq xq, if_neg xq]
  omega
theorem tmod_bd (p : Int) {q : Nat} (hq : 0 < q) : -(2 * (q : Int)) < Int.tmod p (2 * (q : Int)) ∧ Int.tmod p (2 * (q : Int)) < 2 * (q : Int) := ⟨Int.lt_tmod_of_pos p xq, Int.tmod_lt_of_pos p xq⟩
end Nt
theorem IntN.fit {u : World} {i : IL} {z : Int} {K L : Nat} (h : IntN u i z K) (k : dl z.natAbs ≤ L) : IntN u i z L := ⟨h.1, h.2.1, h.2.2.1, k⟩
theorem IntN.lim {u : World} {i : IL} {z : Int} {K : Nat} (h : IntN u i z K) (h0 : -(Nt.u2 1000) ≤ z) (h1 : z ≤ Nt.u2 1000) : IntN u i z 40 := h.fit (Nt.dl_u2 h0 h1 xw)
theorem IntN.lim2 {u : World} {i : IL} {z : Int} {K : Nat} (h : IntN u i z K) (h0 : -(Nt.u2 1000) ≤ z) (h1 : z ≤ Nt.u2 1000) : IntN u i z 42 := (h.lim h0 h1).more xw
end Go.Proofs.YtbolmkfphieogaaGreat
namespace Go.Proofs.YtbolmkfphieogaaGreat
set_option linter.unusedVariables false
namespace Nt
def irt (n : Nat) : Nat → Nat
 | 0 => 0
 | N + 1 => if (irt n N + 1) ^ n ≤ N + 1 then irt n N + 1 else irt n N
end Nt
end Go.Proofs.YtbolmkfphieogaaGreat
namespace Go.Proofs.YtbolmkfphieogaaGreat
open Go.RowKit
set_option linter.unusedVariables false
set_option maxRecDepth 20000
namespace Nt
def rtD (q : Rat) (n b : Nat) : Nat := q.num.natAbs * 2 ^ (n * b) / q.den
def rtN (q : Rat) (n b : Nat) : Nat := irt n (rtD q n b)
def rtX (q : Rat) (n b : Nat) : Prop := q.num.natAbs * 2 ^ (n * b) % q.den = 0 ∧ rtN q n b ^ n = rtD q n b
instance (q : Rat) (n b : Nat) : Decidable (rtX q n b) := by unfold rtX; infer_instance
theorem flo_of2 {X : Nat → Rat} {b w : Nat} {lo hi z : Int} (h : ∃ N : Nat, ∀ m, N ≤ m → Enc (u2 w) lo hi (X m)) (hb : b ≤ w) (h1 : lo / u2 (w - b) = z) (h2 : hi / u2 (w - b) = z) : flo X b = z := (FlO.of h hb h1 h2).flo
end Nt
end Go.Proofs.YtbolmkfphieogaaGreat
namespace Go.Proofs.YtbolmkfphieogaaGreat
open Go.RowKit
set_option linter.unusedVariables false
section
variable {L : List (List Int)} {p l : List Int} {i n c b k : Nat} {u u' : World} {x : Sl} {cs : List Value}
theorem rows_nil : Rows k [] := fun q hq => by cases hq
theorem ir_cell4 (h : IrV 4 u x L) (hi : i < L.length) : ∃ b o, x.a = some ⟨b, o, none⟩ ∧ ∀ j, j < 4 → u.cell? ⟨b, o + i * 4 + j, none⟩ = some (.int .i64 (gi L i j)) := by
 obtain ⟨b, o, h1, h2, h3⟩ := ir_at h hi
 refine ⟨b, o, h1, fun j hj => ?_⟩
 rw [h3 j (by rw [zwi, h.rows.get hi]; exact hj), ics_at (by rw [h.rows.get hi]; exact hj)]
 rfl
end
theorem bd_one {lo hi a : Int} (h : lo ≤ a ∧ a ≤ hi) : ∀ z ∈ [a], lo ≤ z ∧ z ≤ hi := fun z hz => by rw [List.mem_singleton.1 hz]; exact h
namespace Nt
def shC (n b : Int) (p : List Int) : Prop := p.length = 4 ∧ shOK n p ∧ -b ≤ p.getD 2 0 ∧ p.getD 2 0 ≤ b ∧ p.getD 3 0 ≤ 7
theorem shC_mk {n b t f cf sh : Int} (h1 : 0 ≤ t ∧ t < n) (h2 : 0 ≤ f ∧ f < n) (h3 : -2 ≤ sh ∧ sh ≤ 7) (h4 : t = f ↔ sh = -2) (h5 : sh < 0 → cf = 0) (h6 : -b ≤ cf ∧ cf ≤ b) (hb : b ≤ 2097152) : shC n b [t, f, cf, sh] :=
 ⟨rfl, ⟨h1.1, h1.2, h2.1, h2.2, h3.1, by show sh ≤ 20; omega, h4, h5, by show -2097152 ≤ cf; omega, by show cf ≤ 2097152; omega⟩, h6.1, h6.2, h3.2⟩
theorem shC_nil {n b : Int} : ∀ p ∈ ([] : List (List Int)), shC n b p := fun p hp => by cases hp
theorem shC_snoc {n b : Int} {L : List (List Int)} {e : List Int} (h : ∀ p ∈ L, shC n b p) (he : shC n b e) : ∀ p ∈ L ++ [e], shC n b p := fun p hp => by
 rcases List.mem_append.1 hp with hp | hp
 ·exact h p hp
 ·rw [List.mem_singleton.1 hp]; exact he
theorem from_ok {n t f : Nat} (ht : t < n) (hf : f + 1 < n) : (t + 1 + f) % n < n ∧ (t + 1 + f) % n ≠ t := by
 refine ⟨Nat.mod_lt _ xq, ?_⟩
 rcases Nat.lt_or_ge (t + 1 + f) n with h | h
 ·rw [Nat.mod_eq_of_lt h]; omega
 ·have e : (t + 1 + f) % n = t + 1 + f - n := by rw [Nat.mod_eq_sub_mod h, Nat.mod_eq_of_lt xq]
  rw [e]; omega
theorem shC_all {n b : Int} {S : List (List Int)} (hn : 1 ≤ n ∧ n ≤ 64) (hS : S.length ≤ 12) (h : ∀ p ∈ S, shC n b p) : shV n S :=
 ⟨hn.1, hn.2, by omega, fun i hi => by
  rw [List.getD_eq_getElem?_getD, List.getElem?_eq_getElem hi]
  exact (h S[i] (List.getElem_mem hi)).2.1⟩
noncomputable section
def rSH (p q : Nat) : Rat × Rat := cosV (((2 * q : Nat) : Int) - 2 * (p : Int)) (2 * (2 * q)) 64
def rCH (p q : Nat) : Rat × Rat := cosV (p : Int) (2 * q) 64
def rSI (p q : Nat) : Rat × Rat := cosV (((q : Nat) : Int) - 2 * (p : Int)) (2 * q) 64
def rTA (p q : Nat) : Rat × Rat := (divO (rSH p q).1 (rSH p q).2 (rCH p q).1 (rCH p q).2).getD (0, 0)
def roT (p q k : Nat) : Int := coZ (rTA p q).1 (rTA p q).2 k
def roS (p q k : Nat) : Int := coZ (rSI p q).1 (rSI p q).2 k
structure RotOK (p q k : Nat) : Prop where
 g1 : GapQ (2 * (2 * q)) 64
 g2 : GapQ (2 * q) 64
 hs : sgI (rCH p q).1 (rCH p q).2 ≠ 0
 t0 : -2097152 ≤ roT p q k
 t1 : roT p q k ≤ 2097152
 s0 : -2097152 ≤ roS p q k
 s1 : roS p q k ≤ 2097152
def roL (i j p q k : Nat) : List (List Int) := [[(i : Int), (j : Int), roT p q k, (k : Int)], [(j : Int), (i : Int), -roS p q k, (k : Int)], [(i : Int), (j : Int), roT p q k, (k : Int)], [(j : Int), (j : Int), 0, -2]]
theorem RotOK.div {p q k : Nat} (h : RotOK p q k) : divE (rCH p q).1 (rCH p q).2 = 0 ∧ divO (rSH p q).1 (rSH p q).2 (rCH p q).1 (rCH p q).2 = some ((rTA p q).1, (rTA p q).2) := by
 constructor
 ·exact if_neg h.hs
 ·unfold rTA
  have : divO (rSH p q).1 (rSH p q).2 (rCH p q).1 (rCH p q).2 = _ := if_neg h.hs
  rw [this]; rfl
theorem flo_616 : flo (coN 6 16) 64 = xLo (cs8 6 16) / u2 (128 - 64) := flo_of2 (w := 128) (cs8_ok xw xw) xw rfl (by decide +kernel)
theorem flo_18 : flo (coN 1 8) 64 = xLo (cs8 1 8) / u2 (128 - 64) := flo_of2 (w := 128) (cs8_ok xw xw) xw rfl (by decide +kernel)
theorem flo_28 : flo (coN 2 8) 64 = xLo (cs8 2 8) / u2 (128 - 64) := flo_of2 (w := 128) (cs8_ok xw xw) xw rfl (by decide +kernel)
theorem rSH_14 : rSH 1 4 = (gr 64 (xLo (cs8 6 16) / u2 (128 - 64)), gr 64 (xLo (cs8 6 16) / u2 (128 - 64) + 1)) := by
 have h : fold 6 16 = 6 := by decide +kernel
 show cosV 6 16 64 = _
 rw [cosV_lo h xw, cosA_g xw xw xw, flo_616]
theorem rCH_14 : rCH 1 4 = (gr 64 (xLo (cs8 1 8) / u2 (128 - 64)), gr 64 (xLo (cs8 1 8) / u2 (128 - 64) + 1)) := by
 have h : fold 1 8 = 1 := by decide +kernel
 show cosV 1 8 64 = _
 rw [cosV_lo h xw, cosA_g xw xw xw, flo_18]
theorem rSI_14 : rSI 1 4 = (gr 64 (xLo (cs8 2 8) / u2 (128 - 64)), gr 64 (xLo (cs8 2 8) / u2 (128 - 64) + 1)) := by
 have h : fold 2 8 = 2 := by decide +kernel
 show cosV 2 8 64 = _
 rw [cosV_lo h xw, cosA_g xw xw xw, flo_28]
theorem roT_14 : roT 1 4 4 = 7 := by unfold roT rTA; rw [rSH_14, rCH_14]; decide +kernel
theorem roS_14 : roS 1 4 4 = 11 := by unfold roS; rw [rSI_14]; decide +kernel
theorem rotOK_14 : RotOK 1 4 4 := by
 refine ⟨gapQ_16 xw xw, gapQ_16 xw xw, ?_, ?_, ?_, ?_, ?_⟩
 ·rw [rCH_14]; decide +kernel
 ·rw [roT_14]; decide
 ·rw [roT_14]; decide
 ·rw [roS_14]; decide
 ·rw [roS_14]; decide
end
end Nt
end Go.Proofs.YtbolmkfphieogaaGreat
namespace Go.Proofs.YtbolmkfphieogaaGreat
open Go.RowKit
set_option linter.unusedVariables false
theorem k_intDivI {u w : World} {i1 i2 : IL} {z D : Int} {K L : Nat} (d : Dat u w) (h1 : IntV u i1 z K) (h2 : IntN u i2 D L) (hD : 0 < D) (hK : K ≤ 100000000) (hL : L ≤ 100000000) : Calls Tryz.prog 180 #[i1.v, i2.v] w (Post u w fun v u' => ∃ i j : IL, v = .tuple #[i.v, j.v, .int .i64 0] ∧ IntN u' i (z / D) (K + 1) ∧ IntN u' j (z % D) L) := by
 obtain ⟨s, y⟩ := i2
 have hs : s = false := by have h3 := h2.1; rw [decide_eq_false xq] at h3; exact h3
 subst hs
 have hd : ((D.natAbs : Nat) : Int) = D := by omega
 have := k_intDivP d h1 (y := y) (M := D.natAbs) h2.2.raw xq hK hL
 rw [hd] at this
 exact this
theorem k_intSub {u w : World} {i1 : IL} {zN : Int} {K : Nat} {i2 : IL} {zM : Int} {L : Nat} (d : Dat u w) (hi1 : IntV u i1 zN K) (hi2 : IntV u i2 zM L) (hK : K ≤ 400000000) (hL : L ≤ 400000000) : Calls Tryz.prog 233 #[i1.v, i2.v] w (Post u w fun v u' => ∃ i : IL, v = i.v ∧ IntN u' i (zN - zM) (max K L + 1)) := by
 obtain ⟨N, hN, hzN⟩ := hi1
 obtain ⟨M, hM, hzM⟩ := hi2
 refine zzl (args := [i1.v, i2.v]) Tryz.func233 rfl Tryz.ntmps233 (rs := [.cell 4 24]) Tryz.results233 (le_b rfl) (le_b rfl) d ?_
 refine sq9 (zzj 2 ⟨24, i1.cs⟩ (zzj 3 ⟨24, i2.cs⟩ (zzj 4 ⟨24, [.bool false, .slice none 0 0]⟩ (zzb (sq9 (zzh 5 (.v (i1.v)) ty24 zze (zza 6 (.adr 3 0) (zzh 7 (zB i2.s) ty4 zzk (zza 8 (zB (!i2.s)) (zza 9 (.adr 3 1) (zzh 10 (.v i2.m.v) ty22 zzk ?_)))))))))))
 refine zza 11 (.v (.agg #[.bool (!i2.s), i2.m.v])) (zzg 12 159 [i1.v, .agg #[.bool (!i2.s), i2.m.v]] ?_)
 intro w11 u11 e11 d11
 have k16 := k_intAdd d11 (IntV.same (s := i1.s) (hN.ext e11)) (IntV.same (s := !i2.s) (hM.ext e11)) xq xq
 with_reducible refine zPm k16 ?_
 rintro _ u14 g15 ⟨i12, rfl, h13⟩
 refine zzi ⟨24, i12.cs⟩ ty24 ?_
 refine zzb (zzn (ret0 [i12.v] ⟨zzq ty24 zze, trivial⟩ fun u17 e18 => ?_))
 refine ⟨i12, rfl, IntN.more (K := (max K L + 1)) ?_ xq⟩
 have e9 : zN - zM = Nt.sg i1.s N + Nt.sg (!i2.s) M := by rw [hzN, hzM]; unfold Nt.sg; cases i1.s <;> cases i2.s <;> simp <;> omega
 rw [e9]
 exact (h13.ext e18)
theorem k_eUnit {u w : World} {k : Nat} (d : Dat u w) (hk : k ≤ 65536) : Calls Tryz.prog 161 #[.int .i64 (k : Int)] w (Post u w fun v u' => ∃ i : IL, v = SP i i ∧ IntN u' i (Nt.u2 k) (k / 32 + 2)) := by
 refine zzl (args := [.int .i64 k]) Tryz.func161 rfl Tryz.ntmps161 (rs := [.cell 2 160]) Tryz.results161 (le_b rfl) (le_b rfl) d ?_
 refine sq9 (zzj 2 ⟨160, [.bool false, .slice none 0 0, .bool false, .slice none 0 0]⟩ (zzb (sq9 (zxw 4 ⟨104, [.int .u32 1]⟩ 1 (fun b11 u12 e13 h14 => ?_)))))
 refine zza 5 (zI k) (zzg 6 79 [.slice (some ⟨b11, 0, none⟩) 1 1, .int .i64 k] ?_)
 intro w15 u15 e15 d15
 have k20 := k_natShift (s := k) d15 ((one_data h14).ext e15).raw xq xq
 with_reducible refine zPm k20 ?_
 rintro _ u18 g19 ⟨x16, rfl, h17⟩
 refine zza 7 (.v (.agg #[.bool false, x16.v])) (zzj 3 ⟨24, [.bool false, .slice none 0 0]⟩ (zzi ⟨24, [.bool false, x16.v]⟩ ty24 ?_))
 refine zzb (sq9 (zzh 8 (.v (.agg #[.bool false, x16.v])) ty24 zze (zzh 9 (.v (.agg #[.bool false, x16.v])) ty24 zze (zza 10 (.v (.agg #[.bool false, x16.v, .bool false, x16.v])) (zzi ⟨160, [.bool false, x16.v, .bool false, x16.v]⟩ ty160 ?_)))))
 refine zzb (zzn (ret0 [.agg #[.bool false, .slice x16.a x16.n x16.c, .bool false, .slice x16.a x16.n x16.c]] ⟨zzq ty160 zze, trivial⟩ fun u21 e22 => ?_))
 refine ⟨(⟨false, x16⟩ : IL), rfl, ?_⟩
 have h9 := nat_intN (h17.ext e22)
 rw [Nat.one_mul] at h9
 exact h9.more xq
theorem k_eAdd {u w : World} {i j : IL} {a b : Int} {K : Nat} {k l : IL} {e f : Int} {L : Nat} (d : Dat u w) (hi : IntN u i a K) (hj : IntN u j b K) (hk : IntN u k e L) (hl : IntN u l f L) (hK : K ≤ 1000000) (hL : L ≤ 1000000) : Calls Tryz.prog 230 #[SP i j, SP k l] w (Post u w fun v u' => ∃ i j : IL, v = SP i j ∧ IntN u' i (a + e) (max K L + 1) ∧ IntN u' j (b + f) (max K L + 1)) := by
 refine zzl (args := [.agg #[.bool i.s, .slice i.m.a i.m.n i.m.c, .bool j.s, .slice j.m.a j.m.n j.m.c], .agg #[.bool k.s, .slice k.m.a k.m.n k.m.c, .bool l.s, .slice l.m.a l.m.n l.m.c]]) Tryz.func230 rfl Tryz.ntmps230 (rs := [.cell 4 160]) Tryz.results230 (le_b rfl) (le_b rfl) d ?_
 refine sq9 (zzj 2 ⟨160, i.cs ++ j.cs⟩ (zzj 3 ⟨160, k.cs ++ l.cs⟩ (zzj 4 ⟨160, [.bool false, .slice none 0 0, .bool false, .slice none 0 0]⟩ (zzb (zzd (zzy [0, 1, 0, 4, 15, 0, 32, 0, 128, 511, 1023, 2047] [(0, []), (1, []), (2, []), (3, []), (5, []), (6, []), (7, []), (8, []), (4, []), (9, []), (10, []), (11, [])] xj xj (zza 5 (.adr 2 0) (zzh 6 (.v (i.v)) ty24 zze (zza 7 (.adr 3 0) (zzh 8 (.v (k.v)) ty24 zze (zza 10 (.adr 2 2) ?_)))))))))))
 refine zzh 11 (.v (j.v)) ty24 zze (zza 12 (.adr 3 2) (zzh 13 (.v (l.v)) ty24 zze (zzg 9 159 [i.v, k.v] ?_)))
 intro w11 u11 e11 d11
 have k16 := k_intAdd d11 (hi.ext e11).raw (hk.ext e11).raw xq xq
 with_reducible refine zPm k16 ?_
 rintro _ u14 g15 ⟨i12, rfl, h13⟩
 refine zzg 14 159 [j.v, l.v] ?_
 intro w17 u17 e17 d17
 have k22 := k_intAdd d17 (hj.ext (e11.trans (g15.ext.trans e17))).raw (hl.ext (e11.trans (g15.ext.trans e17))).raw xq xq
 with_reducible refine zPm k22 ?_
 rintro _ u20 g21 ⟨i18, rfl, h19⟩
 refine zza 15 (.v (.agg #[.bool i12.s, i12.m.v, .bool i18.s, i18.m.v])) (zzi ⟨160, i12.cs ++ i18.cs⟩ ty160 ?_)
 refine zzb (zzn (ret0 [.agg #[.bool i12.s, .slice i12.m.a i12.m.n i12.m.c, .bool i18.s, .slice i18.m.a i18.m.n i18.m.c]] ⟨zzq ty160 zze, trivial⟩ fun u23 e24 => ?_))
 refine ⟨i12, i18, rfl, IntN.more (K := (max K L + 1)) ?_ xq, IntN.more (K := (max K L + 1)) ?_ xq⟩
 ·exact (h13.ext (e17.trans (g21.ext.trans e24)))
 ·exact (h19.ext e24)
theorem k_eSub {u w : World} {i j : IL} {a b : Int} {K : Nat} {k l : IL} {e f : Int} {L : Nat} (d : Dat u w) (hi : IntN u i a K) (hj : IntN u j b K) (hk : IntN u k e L) (hl : IntN u l f L) (hK : K ≤ 1000000) (hL : L ≤ 1000000) : Calls Tryz.prog 184 #[SP i j, SP k l] w (Post u w fun v u' => ∃ i j : IL, v = SP i j ∧ IntN u' i (a - f) (max K L + 1) ∧ IntN u' j (b - e) (max K L + 1)) := by
 refine zzl (args := [.agg #[.bool i.s, .slice i.m.a i.m.n i.m.c, .bool j.s, .slice j.m.a j.m.n j.m.c], .agg #[.bool k.s, .slice k.m.a k.m.n k.m.c, .bool l.s, .slice l.m.a l.m.n l.m.c]]) Tryz.func184 rfl Tryz.ntmps184 (rs := [.cell 4 160]) Tryz.results184 (le_b rfl) (le_b rfl) d ?_
 refine sq9 (zzj 2 ⟨160, i.cs ++ j.cs⟩ (zzj 3 ⟨160, k.cs ++ l.cs⟩ (zzj 4 ⟨160, [.bool false, .slice none 0 0, .bool false, .slice none 0 0]⟩ (zzb (zzd (zzy [0, 1, 0, 4, 15, 0, 32, 0, 128, 511, 1023, 2047] [(0, []), (1, []), (2, []), (3, []), (5, []), (6, []), (7, []), (8, []), (4, []), (9, []), (10, []), (11, [])] xj xj (zza 5 (.adr 2 0) (zzh 6 (.v (i.v)) ty24 zze (zza 7 (.adr 3 2) (zzh 8 (.v (l.v)) ty24 zze (zza 10 (.adr 2 2) ?_)))))))))))
 refine zzh 11 (.v (j.v)) ty24 zze (zza 12 (.adr 3 0) (zzh 13 (.v (k.v)) ty24 zze (zzg 9 233 [i.v, l.v] ?_)))
 intro w11 u11 e11 d11
 have k16 := k_intSub d11 (hi.ext e11).raw (hl.ext e11).raw xq xq
 with_reducible refine zPm k16 ?_
 rintro _ u14 g15 ⟨i12, rfl, h13⟩
 refine zzg 14 233 [j.v, k.v] ?_
 intro w17 u17 e17 d17
 have k22 := k_intSub d17 (hj.ext (e11.trans (g15.ext.trans e17))).raw (hk.ext (e11.trans (g15.ext.trans e17))).raw xq xq
 with_reducible refine zPm k22 ?_
 rintro _ u20 g21 ⟨i18, rfl, h19⟩
 refine zza 15 (.v (.agg #[.bool i12.s, i12.m.v, .bool i18.s, i18.m.v])) (zzi ⟨160, i12.cs ++ i18.cs⟩ ty160 ?_)
 refine zzb (zzn (ret0 [.agg #[.bool i12.s, .slice i12.m.a i12.m.n i12.m.c, .bool i18.s, .slice i18.m.a i18.m.n i18.m.c]] ⟨zzq ty160 zze, trivial⟩ fun u23 e24 => ?_))
 refine ⟨i12, i18, rfl, IntN.more (K := (max K L + 1)) ?_ xq, IntN.more (K := (max K L + 1)) ?_ xq⟩
 ·exact (h13.ext (e17.trans (g21.ext.trans e24)))
 ·exact (h19.ext e24)
theorem k_eTimes {u w : World} {i j : IL} {a b : Int} {K : Nat} {n9 : Nat} (d : Dat u w) (hi : IntN u i a K) (hj : IntN u j b K)  (hK : K ≤ 1000000) (hn : n9 ≤ 1000000000) : Calls Tryz.prog 183 #[SP i j, .int .i64 (n9 : Int)] w (Post u w fun v u' => ∃ i j : IL, v = SP i j ∧ IntN u' i (a * (n9 : Int)) (K + 2) ∧ IntN u' j (b * (n9 : Int)) (K + 2)) := by
 refine zzl (args := [.agg #[.bool i.s, .slice i.m.a i.m.n i.m.c, .bool j.s, .slice j.m.a j.m.n j.m.c], .int .i64 n9]) Tryz.func183 rfl Tryz.ntmps183 (rs := [.cell 4 160]) Tryz.results183 (le_b rfl) (le_b rfl) d ?_
 refine sq9 (zzj 2 ⟨160, i.cs ++ j.cs⟩ (zzj 4 ⟨160, [.bool false, .slice none 0 0, .bool false, .slice none 0 0]⟩ (zzb (zzd (zzy [0, 1, 0, 4, 15, 0, 32, 0, 159, 511, 1023, 2047] [(0, []), (1, []), (2, []), (5, []), (6, []), (7, []), (3, []), (4, []), (8, []), (9, []), (10, []), (11, [])] xj xj (zza 5 (.adr 2 0) (zzh 6 (.v (i.v)) ty24 zze (zza 7 (zI n9) (zza 10 (.adr 2 2) (zzh 11 (.v (j.v)) ty24 zze (zza 12 (zI n9) ?_)))))))))))
 refine zzg 8 160 [.int .i64 n9] ?_
 intro w11 u11 e11 d11
 have k16 := k_intOf d11 (z := (n9 : Int)) xq xq
 with_reducible refine zPm k16 ?_
 rintro _ u14 g15 ⟨i12, rfl, h13⟩
 refine zzg 9 194 [i.v, i12.v] ?_
 intro w17 u17 e17 d17
 have k22 := k_intMul d17 (hi.ext (e11.trans (g15.ext.trans e17))).raw (h13.ext e17).raw xq xq
 with_reducible refine zPm k22 ?_
 rintro _ u20 g21 ⟨i18, rfl, h19⟩
 refine zzg 13 160 [.int .i64 n9] ?_
 intro w23 u23 e23 d23
 have k28 := k_intOf d23 (z := (n9 : Int)) xq xq
 with_reducible refine zPm k28 ?_
 rintro _ u26 g27 ⟨i24, rfl, h25⟩
 refine zzg 14 194 [j.v, i24.v] ?_
 intro w29 u29 e29 d29
 have k34 := k_intMul d29 (hj.ext (e11.trans (g15.ext.trans (e17.trans (g21.ext.trans (e23.trans (g27.ext.trans e29))))))).raw (h25.ext e29).raw xq xq
 with_reducible refine zPm k34 ?_
 rintro _ u32 g33 ⟨i30, rfl, h31⟩
 refine zza 15 (.v (.agg #[.bool i18.s, i18.m.v, .bool i30.s, i30.m.v])) (zzi ⟨160, i18.cs ++ i30.cs⟩ ty160 ?_)
 refine zzb (zzn (ret0 [.agg #[.bool i18.s, .slice i18.m.a i18.m.n i18.m.c, .bool i30.s, .slice i30.m.a i30.m.n i30.m.c]] ⟨zzq ty160 zze, trivial⟩ fun u35 e36 => ?_))
 refine ⟨i18, i30, rfl, IntN.more (K := (K + 2)) ?_ xq, IntN.more (K := (K + 2)) ?_ xq⟩
 ·exact (h19.ext (e23.trans (g27.ext.trans (e29.trans (g33.ext.trans e36)))))
 ·exact (h31.ext e36)
theorem k_eOver {u w : World} {i j : IL} {a b : Int} {K : Nat} {l : IL} {D : Int} {L : Nat} (d : Dat u w) (hi : IntN u i a K) (hj : IntN u j b K) (hl : IntN u l D L) (hD : 0 < D) (hK : K ≤ 1000000) (hL : L ≤ 1000000) : Calls Tryz.prog 228 #[SP i j, l.v] w (Post u w fun v u' => ∃ i j : IL, v = SP i j ∧ IntN u' i (a / D) (K + 3) ∧ IntN u' j (Nt.cdiv b D) (K + 3)) := by
 refine zzl (args := [.agg #[.bool i.s, .slice i.m.a i.m.n i.m.c, .bool j.s, .slice j.m.a j.m.n j.m.c], l.v]) Tryz.func228 rfl Tryz.ntmps228 (rs := [.cell 4 160]) Tryz.results228 (le_b rfl) (le_b rfl) d ?_
 refine sq9 (zzj 2 ⟨160, i.cs ++ j.cs⟩ (zzj 3 ⟨24, l.cs⟩ (zzj 4 ⟨160, [.bool false, .slice none 0 0, .bool false, .slice none 0 0]⟩ (zzb (sq9 (zza 12 (.adr 2 0) (zzh 13 (.v (i.v)) ty24 zze (zzh 14 (.v (l.v)) ty24 zze (zzg 15 180 [i.v, l.v] ?_)))))))))
 intro w11 u11 e11 d11
 have k18 := k_intDivI d11 (hi.ext e11).raw (hl.ext e11) hD xq xq
 with_reducible refine zPm k18 ?_
 rintro _ u16 g17 ⟨i12, i14, rfl, h13, h15⟩
 refine zza 11 (.v (.tuple #[i12.v, i14.v, .int .i64 0])) (zza 16 (.v (i12.v)) (zza 17 (.v (i14.v)) (zza 18 (zI 0) (zzj 5 ⟨24, [.bool false, .slice none 0 0]⟩ (zzj 6 ⟨24, [.bool false, .slice none 0 0]⟩ (zzi ⟨24, i12.cs⟩ ty24 ?_))))))
 refine zzi ⟨24, i14.cs⟩ ty24 ?_
 refine zza 7 (zI 0) (zzb (sq9 (zza 20 (.adr 2 2) (zzh 21 (.v (j.v)) ty24 zze (zzh 22 (.v (l.v)) ty24 zze (zzg 23 180 [j.v, l.v] ?_))))))
 intro w19 u19 e19 d19
 have k26 := k_intDivI d19 (hj.ext (e11.trans (g17.ext.trans e19))).raw (hl.ext (e11.trans (g17.ext.trans e19))) hD xq xq
 with_reducible refine zPm k26 ?_
 rintro _ u24 g25 ⟨i20, i22, rfl, h21, h23⟩
 refine zza 19 (.v (.tuple #[i20.v, i22.v, .int .i64 0])) (zza 24 (.v (i20.v)) (zza 25 (.v (i22.v)) (zza 26 (zI 0) (zzj 8 ⟨24, [.bool false, .slice none 0 0]⟩ (zzj 9 ⟨24, [.bool false, .slice none 0 0]⟩ (zzi ⟨24, i20.cs⟩ ty24 ?_))))))
 refine zzi ⟨24, i22.cs⟩ ty24 ?_
 refine zza 10 (zI 0) (zzb (zzd (sq9 (zzh 27 (.v (i22.v)) ty24 zze (zzg 28 146 [i22.v] ?_)))))
 intro w27 u27 e27 d27
 have k30 := k_intSign d27 (h23.ext e27).raw
 with_reducible refine zPm k30 ?_
 rintro _ u28 g29 rfl
 refine zza 29 (zB ((Nt.cmpS (b % D) 0) != 0)) (zzc 36 [(4, .adr 4 0), (5, .adr 5 0), (8, .adr 8 0), (29, zB ((Nt.cmpS (b % D) 0) != 0))] [(4, ⟨160, [.bool false, .slice none 0 0, .bool false, .slice none 0 0]⟩), (5, ⟨24, i12.cs⟩), (8, ⟨24, i20.cs⟩)] (zzt (b := (Nt.cmpS (b % D) 0) != 0) xj (fun hb31 => ?_) (fun hb31 => ?_)))
 ·replace hb31 : ((Nt.cmpS (b % D) 0) != 0) = true := hb31
  refine zzy [0, 0, 3, 7] [(0, []), (1, []), (2, []), (3, [])] xj xj (zzh 30 (.v (i20.v)) ty24 zze (zzg 31 160 [.int .i64 1] ?_))
  intro w32 u32 e32 d32
  have k37 := k_intOf d32 (z := 1) xq xq
  with_reducible refine zPm k37 ?_
  rintro _ u35 g36 ⟨i33, rfl, h34⟩
  refine zzg 32 159 [i20.v, i33.v] ?_
  intro w38 u38 e38 d38
  have k43 := k_intAdd d38 (h21.ext (e27.trans (g29.ext.trans (e32.trans (g36.ext.trans e38))))).raw (h34.ext e38).raw xq xq
  with_reducible refine zPm k43 ?_
  rintro _ u41 g42 ⟨i39, rfl, h40⟩
  refine zzi ⟨24, i39.cs⟩ ty24 ?_
  refine zzb (sq9 (zzh 33 (.v (i12.v)) ty24 zze (zzh 34 (.v (i39.v)) ty24 zze (zza 35 (.v (.agg #[.bool i12.s, i12.m.v, .bool i39.s, i39.m.v])) (zzi ⟨160, i12.cs ++ i39.cs⟩ ty160 ?_)))))
  refine zzb (zzn (ret0 [.agg #[.bool i12.s, .slice i12.m.a i12.m.n i12.m.c, .bool i39.s, .slice i39.m.a i39.m.n i39.m.c]] ⟨zzq ty160 zze, trivial⟩ fun u44 e45 => ?_))
  have h8 : ¬ b % D = 0 := by intro h7; rw [h7] at hb31; exact absurd hb31 xw
  rw [Nt.cd_eq1 hD h8]
  refine ⟨i12, i39, rfl, IntN.more (K := (K + 1)) ?_ xq, IntN.more (K := (max (K + 1) 2 + 1)) ?_ xq⟩
  ·exact (h13.ext (e19.trans (g25.ext.trans (e27.trans (g29.ext.trans (e32.trans (g36.ext.trans (e38.trans (g42.ext.trans e45)))))))))
  ·exact (h40.ext e45)
 ·replace hb31 : ((Nt.cmpS (b % D) 0) != 0) = false := hb31
  refine zzr (zzo ?_)
  refine sq9 (zzh 33 (.v (i12.v)) ty24 zze (zzh 34 (.v (i20.v)) ty24 zze (zza 35 (.v (.agg #[.bool i12.s, i12.m.v, .bool i20.s, i20.m.v])) (zzi ⟨160, i12.cs ++ i20.cs⟩ ty160 ?_))))
  refine zzb (zzn (ret0 [.agg #[.bool i12.s, .slice i12.m.a i12.m.n i12.m.c, .bool i20.s, .slice i20.m.a i20.m.n i20.m.c]] ⟨zzq ty160 zze, trivial⟩ fun u46 e47 => ?_))
  have h8 : b % D = 0 := by rw [Nt.cmp_ne] at hb31; simpa using hb31
  rw [Nt.cd_eq0 hD h8]
  refine ⟨i12, i20, rfl, IntN.more (K := (K + 1)) ?_ xq, IntN.more (K := (K + 1)) ?_ xq⟩
  ·exact (h13.ext (e19.trans (g25.ext.trans (e27.trans (g29.ext.trans e47)))))
  ·exact (h21.ext (e27.trans (g29.ext.trans e47)))
theorem k_eProd {u w : World} {i j : IL} {a b : Int} {K : Nat} {k l : IL} {e f : Int} {L p : Nat} (d : Dat u w) (hi : IntN u i a K) (hj : IntN u j b K) (hk : IntN u k e L) (hl : IntN u l f L) (hK : K ≤ 400000) (hL : L ≤ 400000) (hp : p ≤ 60000) : Calls Tryz.prog 229 #[SP i j, SP k l, .int .i64 (p : Int)] w (Post u w fun v u' => ∃ i j : IL, v = SP i j ∧ IntN u' i (a * e / Nt.u2 p) (K + L + 3) ∧ IntN u' j (Nt.cdiv (b * f) (Nt.u2 p)) (K + L + 3)) := by
 refine zzl (args := [.agg #[.bool i.s, .slice i.m.a i.m.n i.m.c, .bool j.s, .slice j.m.a j.m.n j.m.c], .agg #[.bool k.s, .slice k.m.a k.m.n k.m.c, .bool l.s, .slice l.m.a l.m.n l.m.c], .int .i64 p]) Tryz.func229 rfl Tryz.ntmps229 (rs := [.cell 6 160]) Tryz.results229 (le_b rfl) (le_b rfl) d ?_
 refine sq9 (zzj 3 ⟨160, i.cs ++ j.cs⟩ (zzj 4 ⟨160, k.cs ++ l.cs⟩ (zzj 6 ⟨160, [.bool false, .slice none 0 0, .bool false, .slice none 0 0]⟩ (zzb (zzd (zzy [0, 1, 0, 4, 15, 0, 32, 0, 128, 511, 1023, 0, 3071, 7167, 16383, 32767] [(0, []), (1, []), (2, []), (3, []), (5, []), (6, []), (7, []), (8, []), (11, []), (4, []), (9, []), (10, []), (12, []), (13, []), (14, []), (15, [])] xj xj (zza 7 (.adr 3 0) (zzh 8 (.v (i.v)) ty24 zze (zza 9 (.adr 4 0) (zzh 10 (.v (k.v)) ty24 zze (zza 12 (.adr 3 2) ?_)))))))))))
 refine zzh 13 (.v (j.v)) ty24 zze (zza 14 (.adr 4 2) (zzh 15 (.v (l.v)) ty24 zze (zza 18 (zI p) (zzg 11 194 [i.v, k.v] ?_))))
 intro w11 u11 e11 d11
 have k16 := k_intMul d11 (hi.ext e11).raw (hk.ext e11).raw xq xq
 with_reducible refine zPm k16 ?_
 rintro _ u14 g15 ⟨i12, rfl, h13⟩
 refine zzg 16 194 [j.v, l.v] ?_
 intro w17 u17 e17 d17
 have k22 := k_intMul d17 (hj.ext (e11.trans (g15.ext.trans e17))).raw (hl.ext (e11.trans (g15.ext.trans e17))).raw xq xq
 with_reducible refine zPm k22 ?_
 rintro _ u20 g21 ⟨i18, rfl, h19⟩
 refine zza 17 (.v (.agg #[.bool i12.s, i12.m.v, .bool i18.s, i18.m.v])) (zzg 19 161 [.int .i64 p] ?_)
 intro w23 u23 e23 d23
 have k28 := k_eUnit (k := p) d23 xq
 with_reducible refine zPm k28 ?_
 rintro _ u26 g27 ⟨i24, rfl, h25⟩
 refine zza 20 (.v (i24.v)) (zzg 21 228 [.agg #[.bool i12.s, i12.m.v, .bool i18.s, i18.m.v], i24.v] ?_)
 intro w29 u29 e29 d29
 have k36 := k_eOver d29 (h13.ext (e17.trans (g21.ext.trans (e23.trans (g27.ext.trans e29))))) (h19.ext (e23.trans (g27.ext.trans e29))) (h25.ext e29) (Nt.u2_pos p) xq xq
 with_reducible refine zPm k36 ?_
 rintro _ u34 g35 ⟨i30, i32, rfl, h31, h33⟩
 refine zzi ⟨160, i30.cs ++ i32.cs⟩ ty160 ?_
 refine zzb (zzn (ret0 [.agg #[.bool i30.s, .slice i30.m.a i30.m.n i30.m.c, .bool i32.s, .slice i32.m.a i32.m.n i32.m.c]] ⟨zzq ty160 zze, trivial⟩ fun u37 e38 => ?_))
 refine ⟨i30, i32, rfl, IntN.more (K := ((K + L) + 3)) ?_ xq, IntN.more (K := ((K + L) + 3)) ?_ xq⟩
 ·exact (h31.ext e38)
 ·exact (h33.ext e38)
theorem k_eWider {u w : World} {i j : IL} {a b : Int} {K : Nat}  (d : Dat u w) (hi : IntN u i a K) (hj : IntN u j b K)  (hK : K ≤ 1000000)  : Calls Tryz.prog 232 #[SP i j] w (Post u w fun v u' => ∃ i j : IL, v = SP i j ∧ IntN u' i (a - 1) (K + 3) ∧ IntN u' j (b + 1) (K + 3)) := by
 refine zzl (args := [.agg #[.bool i.s, .slice i.m.a i.m.n i.m.c, .bool j.s, .slice j.m.a j.m.n j.m.c]]) Tryz.func232 rfl Tryz.ntmps232 (rs := [.cell 2 160]) Tryz.results232 (le_b rfl) (le_b rfl) d ?_
 refine sq9 (zzj 1 ⟨160, i.cs ++ j.cs⟩ (zzj 2 ⟨160, [.bool false, .slice none 0 0, .bool false, .slice none 0 0]⟩ (zzb (sq9 (zzg 4 160 [.int .i64 1] ?_)))))
 intro w11 u11 e11 d11
 have k16 := k_intOf d11 (z := 1) xq xq
 with_reducible refine zPm k16 ?_
 rintro _ u14 g15 ⟨i12, rfl, h13⟩
 refine zzj 3 ⟨24, [.bool false, .slice none 0 0]⟩ (zzi ⟨24, i12.cs⟩ ty24 ?_)
 refine zzb (zzd (zzy [0, 1, 0, 7, 0, 16, 0, 127, 255, 511] [(0, []), (1, []), (2, []), (4, []), (5, []), (6, []), (3, []), (7, []), (8, []), (9, [])] xj xj (zza 5 (.adr 1 0) (zzh 6 (.v (i.v)) ty24 zze (zzh 7 (.v (i12.v)) ty24 zze (zza 9 (.adr 1 2) (zzh 10 (.v (j.v)) ty24 zze (zzh 11 (.v (i12.v)) ty24 zze (zzg 8 233 [i.v, i12.v] ?_)))))))))
 intro w17 u17 e17 d17
 have k22 := k_intSub d17 (hi.ext (e11.trans (g15.ext.trans e17))).raw (h13.ext e17).raw xq xq
 with_reducible refine zPm k22 ?_
 rintro _ u20 g21 ⟨i18, rfl, h19⟩
 refine zzg 12 159 [j.v, i12.v] ?_
 intro w23 u23 e23 d23
 have k28 := k_intAdd d23 (hj.ext (e11.trans (g15.ext.trans (e17.trans (g21.ext.trans e23))))).raw (h13.ext (e17.trans (g21.ext.trans e23))).raw xq xq
 with_reducible refine zPm k28 ?_
 rintro _ u26 g27 ⟨i24, rfl, h25⟩
 refine zza 13 (.v (.agg #[.bool i18.s, i18.m.v, .bool i24.s, i24.m.v])) (zzi ⟨160, i18.cs ++ i24.cs⟩ ty160 ?_)
 refine zzb (zzn (ret0 [.agg #[.bool i18.s, .slice i18.m.a i18.m.n i18.m.c, .bool i24.s, .slice i24.m.a i24.m.n i24.m.c]] ⟨zzq ty160 zze, trivial⟩ fun u29 e30 => ?_))
 refine ⟨i18, i24, rfl, IntN.more (K := (max K 2 + 1)) ?_ xq, IntN.more (K := (max K 2 + 1)) ?_ xq⟩
 ·exact (h19.ext (e23.trans (g27.ext.trans e30)))
 ·exact (h25.ext e30)
theorem k_eTiny {u w : World} {i j : IL} {a b : Int} {K : Nat}  (d : Dat u w) (hi : IntN u i a K) (hj : IntN u j b K)  (hK : K ≤ 1000000)  : Calls Tryz.prog 231 #[SP i j] w (Post u w fun v u' => v = .bool (decide (b ≤ 1))) := by
 refine zzl (args := [.agg #[.bool i.s, .slice i.m.a i.m.n i.m.c, .bool j.s, .slice j.m.a j.m.n j.m.c]]) Tryz.func231 rfl Tryz.ntmps231 (rs := [.tmp 2]) Tryz.results231 (le_b rfl) (le_b rfl) d ?_
 refine sq9 (zzj 1 ⟨160, i.cs ++ j.cs⟩ (zza 2 (zB false) (zzb (zzd (zzy [0, 1, 0, 7, 15, 31] [(0, []), (1, []), (2, []), (3, []), (4, []), (5, [])] xj xj (zza 3 (.adr 1 2) (zzh 4 (.v (j.v)) ty24 zze (zzg 5 160 [.int .i64 1] ?_))))))))
 intro w11 u11 e11 d11
 have k16 := k_intOf d11 (z := 1) xq xq
 with_reducible refine zPm k16 ?_
 rintro _ u14 g15 ⟨i12, rfl, h13⟩
 refine zzg 6 181 [j.v, i12.v] ?_
 intro w17 u17 e17 d17
 have k20 := k_intCompare d17 (hj.ext (e11.trans (g15.ext.trans e17))).raw (h13.ext e17).raw
 with_reducible refine zPm k20 ?_
 rintro _ u18 g19 rfl
 refine zza 7 (zB (decide ((Nt.cmpS b 1) ≤ 0))) (zza 2 (zB (decide ((Nt.cmpS b 1) ≤ 0))) (zzb (zzn (ret0 [.bool (decide ((Nt.cmpS b 1) ≤ 0))] ⟨zzp, trivial⟩ fun u21 e22 => ?_))))
 show Value.bool _ = Value.bool _
 rw [Nt.cmp_le]
set_option maxHeartbeats 4000000 in
theorem k_arctan {u w : World} {n k : Nat} (d : Dat u w) (hn : 2 ≤ n) (hn2 : n ≤ 1000) (hk : k ≤ 800) : Calls Tryz.prog 182 #[.int .i64 (n : Int), .int .i64 (k : Int)] w (Post u w fun v u' => ∃ (i j : IL) (a b : Int), v = SP i j ∧ IntN u' i a 42 ∧ IntN u' j b 42 ∧ Nt.AtR n k a b) := by
 have hN2 : 4 ≤ n * n := Nat.mul_le_mul hn hn
 have hN3 : n * n ≤ 1000000 := Nat.mul_le_mul hn2 hn2
 have hnn : -9223372036854775808 ≤ (n : Int) * (n : Int) ∧ (n : Int) * (n : Int) ≤ 9223372036854775807 := by rw [← Int.natCast_mul]; omega
 have hbig := Nt.big hk
 have hu2 := Nt.u2_pos k
 refine zzl (args := [.int .i64 n, .int .i64 k]) Tryz.func182 rfl Tryz.ntmps182 (rs := [.cell 4 160]) Tryz.results182 (le_b rfl) (le_b rfl) d ?_
 refine sq9 (zzj 4 ⟨160, [.bool false, .slice none 0 0, .bool false, .slice none 0 0]⟩ (zzb (sq9 (zza 9 (zI k) (zzg 10 161 [.int .i64 k] ?_)))))
 intro w11 u11 e11 d11
 have k16 := k_eUnit (k := k) d11 xq
 with_reducible refine zPm k16 ?_
 rintro _ u14 g15 ⟨i12, rfl, h13⟩
 refine zza 11 (zI n) (zzg 12 160 [.int .i64 n] ?_)
 intro w17 u17 e17 d17
 have k22 := k_intOf d17 (z := (n : Int)) xq xq
 with_reducible refine zPm k22 ?_
 rintro _ u20 g21 ⟨i18, rfl, h19⟩
 refine zzg 13 228 [.agg #[.bool i12.s, i12.m.v, .bool i12.s, i12.m.v], i18.v] ?_
 intro w23 u23 e23 d23
 have k30 := k_eOver d23 (h13.ext (e17.trans (g21.ext.trans e23))) (h13.ext (e17.trans (g21.ext.trans e23))) (h19.ext e23) xq xq xq
 with_reducible refine zPm k30 ?_
 rintro _ u28 g29 ⟨i24, i26, rfl, h25, h27⟩
 refine zzj 5 ⟨160, [.bool false, .slice none 0 0, .bool false, .slice none 0 0]⟩ (zzi ⟨160, i24.cs ++ i26.cs⟩ ty160 ?_)
 refine zzb (sq9 (zzh 14 (.v (.agg #[.bool i24.s, i24.m.v, .bool i26.s, i26.m.v])) ty160 zze (zzj 6 ⟨160, [.bool false, .slice none 0 0, .bool false, .slice none 0 0]⟩ (zzi ⟨160, i24.cs ++ i26.cs⟩ ty160 ?_))))
 refine zzb (sq9 (zza 7 (zI 3) (zzb (zzs (zym (I := fun m31 S' u' => ∃ (j : Nat) (x1 : IL) (x2 : IL) (y1 : IL) (y2 : IL) (a : Int) (b : Int) (cc : Int) (dd : Int), (m31 = b.toNat) ∧ (Nt.AtI n k j a b cc dd) ∧ (S' = St.of 40 [(0, zI n), (4, .adr 4 0), (5, .adr 5 0), (6, .adr 6 0), (7, zI (2 * j + 3 : Nat))] [(4, ⟨160, [.bool false, .slice none 0 0, .bool false, .slice none 0 0]⟩), (5, ⟨160, x1.cs ++ x2.cs⟩), (6, ⟨160, y1.cs ++ y2.cs⟩)]) ∧ (Ext u28 u') ∧ (IntN u' x1 a 40) ∧ (IntN u' x2 b 40) ∧ (IntN u' y1 cc 40) ∧ (IntN u' y2 dd 40)) (fun m S u1 u2 e h => by obtain ⟨j, x1, x2, y1, y2, a, b, cc, dd, hm, p0, hS, hE, f0, f1, f2, f3⟩ := h; exact ⟨j, x1, x2, y1, y2, a, b, cc, dd, hm, p0, hS, hE.trans e, f0.ext e, f1.ext e, f2.ext e, f3.ext e⟩) _ yw ⟨0, i24, i26, i24, i26, ((Nt.u2 k) / (n : Int)), (Nt.cdiv (Nt.u2 k) (n : Int)), ((Nt.u2 k) / (n : Int)), (Nt.cdiv (Nt.u2 k) (n : Int)), rfl, (Nt.AtI.start xq), rfl, (Ext.refl _), (IntN.lim h25 (by have h8 := (Nt.AtI.start (n := n) (w := k) xq).bd xq; omega) (by have h8 := (Nt.AtI.start (n := n) (w := k) xq).bd xq; omega)), (IntN.lim h27 (by have h8 := (Nt.AtI.start (n := n) (w := k) xq).bd xq; have h9 := (Nt.AtI.start (n := n) (w := k) xq).p1; omega) (by have h8 := (Nt.AtI.start (n := n) (w := k) xq).bd xq; omega)), (IntN.lim h25 (by have h8 := (Nt.AtI.start (n := n) (w := k) xq).bd xq; omega) (by have h8 := (Nt.AtI.start (n := n) (w := k) xq).bd xq; omega)), (IntN.lim h27 (by have h8 := (Nt.AtI.start (n := n) (w := k) xq).bd xq; have h9 := (Nt.AtI.start (n := n) (w := k) xq).p1; omega) (by have h8 := (Nt.AtI.start (n := n) (w := k) xq).bd xq; omega))⟩ ?_)))))
 rintro m31 _ u31 ⟨j, x1, x2, y1, y2, a, b, cc, dd, hm31, hI, rfl, e31, f0, f1, f2, f3⟩
 have hjw := hI.jw
 refine zzd (zzs (zzd (zzy [0, 0, 0, 6, 14, 31, 63] [(0, []), (1, []), (2, []), (3, []), (4, []), (5, []), (6, [])] xj xj (zzh 17 (.v (.agg #[.bool x1.s, x1.m.v, .bool x2.s, x2.m.v])) ty160 zze (zza 18 (zI n) (zza 19 (zI n) (zyp 20 (x := zI (IntKind.i64.wrap ((n : Int) * (n : Int)))) (zI (((n * n : Nat) : Int))) (by rw [show (IntKind.i64.wrap ((n : Int) * (n : Int))) = ((n * n : Nat) : Int) from (by rw [IntWalk.i64_in _ hnn]; rfl)]) (zzg 21 160 [.int .i64 (n * n : Nat)] ?_))))))))
 intro w32 u32 e32 d32
 have k37 := k_intOf d32 (z := ((n * n : Nat) : Int)) xq xq
 with_reducible refine zPm k37 ?_
 rintro _ u35 g36 ⟨i33, rfl, h34⟩
 refine zzg 22 228 [.agg #[.bool x1.s, x1.m.v, .bool x2.s, x2.m.v], i33.v] ?_
 intro w38 u38 e38 d38
 have k45 := k_eOver d38 (f0.ext (e32.trans (g36.ext.trans e38))) (f1.ext (e32.trans (g36.ext.trans e38))) (h34.ext e38) xq xq xq
 with_reducible refine zPm k45 ?_
 rintro _ u43 g44 ⟨i39, i41, rfl, h40, h42⟩
 refine zzi ⟨160, i39.cs ++ i41.cs⟩ ty160 ?_
 refine zzb (zzd (zzy [0, 0, 2, 7, 0, 31] [(0, []), (1, []), (4, []), (2, []), (3, []), (5, [])] xj xj (zzh 23 (.v (.agg #[.bool i39.s, i39.m.v, .bool i41.s, i41.m.v])) ty160 zze (zza 24 (zI (2 * j + 3 : Nat)) (zzj 8 ⟨160, [.bool false, .slice none 0 0, .bool false, .slice none 0 0]⟩ (zzg 25 160 [.int .i64 (2 * j + 3 : Nat)] ?_))))))
 intro w46 u46 e46 d46
 have k51 := k_intOf d46 (z := ((2 * j + 3 : Nat) : Int)) xq xq
 with_reducible refine zPm k51 ?_
 rintro _ u49 g50 ⟨i47, rfl, h48⟩
 refine zzg 26 228 [.agg #[.bool i39.s, i39.m.v, .bool i41.s, i41.m.v], i47.v] ?_
 intro w52 u52 e52 d52
 have k59 := k_eOver d52 (h40.ext (e46.trans (g50.ext.trans e52))) (h42.ext (e46.trans (g50.ext.trans e52))) (h48.ext e52) xq xq xq
 with_reducible refine zPm k59 ?_
 rintro _ u57 g58 ⟨i53, i55, rfl, h54, h56⟩
 refine zzi ⟨160, i53.cs ++ i55.cs⟩ ty160 ?_
 refine zzb (zzd (sq9 (zza 27 (zI (2 * j + 3 : Nat)) (zza 28 (zI (Int.tmod ((2 * j + 3 : Nat) : Int) 4)) (zza 29 (zB ((Int.tmod ((2 * j + 3 : Nat) : Int) 4) == 3)) (zzb (zzt (b := (Int.tmod ((2 * j + 3 : Nat) : Int) 4) == 3) xj (fun hb60 => ?_) (fun hb60 => ?_))))))))
 ·replace hb60 : ((Int.tmod ((2 * j + 3 : Nat) : Int) 4) == 3) = true := hb60
  have ehb60 : Int.tmod ((2 * j + 3 : Nat) : Int) 4 = ((2 * j + 3 : Nat) : Int) % 4 := Int.tmod_eq_emod_of_nonneg xq
  have q2hb60 :  j % 2 = 0 := by have h9 := hb60; rw [ehb60] at h9; simp at h9; omega
  refine zzf (zzh 30 (.v (.agg #[.bool y1.s, y1.m.v, .bool y2.s, y2.m.v])) ty160 zze (zzh 31 (.v (.agg #[.bool i53.s, i53.m.v, .bool i55.s, i55.m.v])) ty160 zze (zzg 32 184 [.agg #[.bool y1.s, y1.m.v, .bool y2.s, y2.m.v], .agg #[.bool i53.s, i53.m.v, .bool i55.s, i55.m.v]] ?_)))
  intro w61 u61 e61 d61
  have k68 := k_eSub d61 (f2.ext (e32.trans (g36.ext.trans (e38.trans (g44.ext.trans (e46.trans (g50.ext.trans (e52.trans (g58.ext.trans e61))))))))) (f3.ext (e32.trans (g36.ext.trans (e38.trans (g44.ext.trans (e46.trans (g50.ext.trans (e52.trans (g58.ext.trans e61))))))))) (h54.ext e61) (h56.ext e61) xq xq
  with_reducible refine zPm k68 ?_
  rintro _ u66 g67 ⟨i62, i64, rfl, h63, h65⟩
  refine zzi ⟨160, i62.cs ++ i64.cs⟩ ty160 ?_
  refine zzc 40 [(0, zI n), (4, .adr 4 0), (5, .adr 5 0), (6, .adr 6 0), (7, zI (2 * j + 3 : Nat)), (8, .adr 8 0)] [(4, ⟨160, [.bool false, .slice none 0 0, .bool false, .slice none 0 0]⟩), (5, ⟨160, i39.cs ++ i41.cs⟩), (6, ⟨160, i62.cs ++ i64.cs⟩), (8, ⟨160, i53.cs ++ i55.cs⟩)] (sq9 (zzh 36 (.v (.agg #[.bool i53.s, i53.m.v, .bool i55.s, i55.m.v])) ty160 zze (zzg 37 231 [.agg #[.bool i53.s, i53.m.v, .bool i55.s, i55.m.v]] ?_)))
  intro w69 u69 e69 d69
  have k72 := k_eTiny d69 (h54.ext (e61.trans (g67.ext.trans e69))) (h56.ext (e61.trans (g67.ext.trans e69))) xq
  with_reducible refine zPm k72 ?_
  rintro _ u70 g71 rfl
  refine zzb (zzt (b := decide ((Nt.cdiv (Nt.cdiv b ((n * n : Nat) : Int)) ((2 * j + 3 : Nat) : Int)) ≤ 1)) xj (fun hb73 => ?_) (fun hb73 => ?_))
  ·replace hb73 : (decide ((Nt.cdiv (Nt.cdiv b ((n * n : Nat) : Int)) ((2 * j + 3 : Nat) : Int)) ≤ 1)) = true := hb73
   have qhb73 := of_decide_eq_true hb73
   refine sq9 (zzh 38 (.v (.agg #[.bool i62.s, i62.m.v, .bool i64.s, i64.m.v])) ty160 zze (zzg 39 232 [.agg #[.bool i62.s, i62.m.v, .bool i64.s, i64.m.v]] ?_))
   intro w74 u74 e74 d74
   have k81 := k_eWider d74 (h63.ext (e69.trans (g71.ext.trans e74))) (h65.ext (e69.trans (g71.ext.trans e74))) xq
   with_reducible refine zPm k81 ?_
   rintro _ u79 g80 ⟨i75, i77, rfl, h76, h78⟩
   refine zzi ⟨160, i75.cs ++ i77.cs⟩ ty160 ?_
   refine zzb (zzn (zyt (zzv (zys (zyt (ret0 [.agg #[.bool i75.s, .slice i75.m.a i75.m.n i75.m.c, .bool i77.s, .slice i77.m.a i77.m.n i77.m.c]] ⟨zzq ty160 zze, trivial⟩ fun u82 e83 => ?_))))))
   have ho := hI.out xq (of_decide_eq_true hb73) (hI.sub xq q2hb60) (by have h9 := hI.tw xq; omega)
   have hob := Nt.atR_bd ho xq
   exact ⟨i75, i77, _, _, rfl, IntN.lim2 (h76.ext e83) xq xq, IntN.lim2 (h78.ext e83) xq xq, ho⟩
  ·replace hb73 : (decide ((Nt.cdiv (Nt.cdiv b ((n * n : Nat) : Int)) ((2 * j + 3 : Nat) : Int)) ≤ 1)) = false := hb73
   have qhb73 := of_decide_eq_false hb73
   refine zzr (zzo ?_)
   refine zzf (zza 15 (zI (2 * j + 3 : Nat)) (zyp 16 (x := zI (IntKind.i64.wrap (((2 * j + 3 : Nat) : Int) + 2))) (zI (((2 * j + 3) + 2 : Nat) : Int)) (eqI xz) (zza 7 (zI (((2 * j + 3) + 2 : Nat) : Int)) (zzw ?_))))
   have hgo := hI.go xq (by have h9 := of_decide_eq_false hb73; omega) (hI.sub xq q2hb60) (by have h9 := hI.tw xq; omega)
   have hb := hgo.1.bd xq
   have hp0 := hgo.1.p0
   have hp1 := hgo.1.p1
   have hple := hgo.1.p.le
   have hpp := hI.p1
   refine ⟨_, ?_, _, by exact zzu _ _ _, j + 1, i39, i41, i62, i64, (a / ((n * n : Nat) : Int)), (Nt.cdiv b ((n * n : Nat) : Int)), (cc - (Nt.cdiv (Nt.cdiv b ((n * n : Nat) : Int)) ((2 * j + 3 : Nat) : Int))), (dd - ((a / ((n * n : Nat) : Int)) / ((2 * j + 3 : Nat) : Int))), rfl, hgo.1, rfl, (e31.trans (e32.trans (g36.ext.trans (e38.trans (g44.ext.trans (e46.trans (g50.ext.trans (e52.trans (g58.ext.trans (e61.trans (g67.ext.trans (e69.trans g71.ext)))))))))))), (IntN.lim (h40.ext (e46.trans (g50.ext.trans (e52.trans (g58.ext.trans (e61.trans (g67.ext.trans (e69.trans g71.ext)))))))) xq xq), (IntN.lim (h42.ext (e46.trans (g50.ext.trans (e52.trans (g58.ext.trans (e61.trans (g67.ext.trans (e69.trans g71.ext)))))))) xq xq), (IntN.lim (h63.ext (e69.trans g71.ext)) xq xq), (IntN.lim (h65.ext (e69.trans g71.ext)) xq xq)⟩
   omega
 ·replace hb60 : ((Int.tmod ((2 * j + 3 : Nat) : Int) 4) == 3) = false := hb60
  have ehb60 : Int.tmod ((2 * j + 3 : Nat) : Int) 4 = ((2 * j + 3 : Nat) : Int) % 4 := Int.tmod_eq_emod_of_nonneg xq
  have q2hb60 : ¬ j % 2 = 0 := by have h9 := hb60; rw [ehb60] at h9; simp at h9; omega
  refine zzf (zzh 33 (.v (.agg #[.bool y1.s, y1.m.v, .bool y2.s, y2.m.v])) ty160 zze (zzh 34 (.v (.agg #[.bool i53.s, i53.m.v, .bool i55.s, i55.m.v])) ty160 zze (zzg 35 230 [.agg #[.bool y1.s, y1.m.v, .bool y2.s, y2.m.v], .agg #[.bool i53.s, i53.m.v, .bool i55.s, i55.m.v]] ?_)))
  intro w84 u84 e84 d84
  have k91 := k_eAdd d84 (f2.ext (e32.trans (g36.ext.trans (e38.trans (g44.ext.trans (e46.trans (g50.ext.trans (e52.trans (g58.ext.trans e84))))))))) (f3.ext (e32.trans (g36.ext.trans (e38.trans (g44.ext.trans (e46.trans (g50.ext.trans (e52.trans (g58.ext.trans e84))))))))) (h54.ext e84) (h56.ext e84) xq xq
  with_reducible refine zPm k91 ?_
  rintro _ u89 g90 ⟨i85, i87, rfl, h86, h88⟩
  refine zzi ⟨160, i85.cs ++ i87.cs⟩ ty160 ?_
  refine zzc 40 [(0, zI n), (4, .adr 4 0), (5, .adr 5 0), (6, .adr 6 0), (7, zI (2 * j + 3 : Nat)), (8, .adr 8 0)] [(4, ⟨160, [.bool false, .slice none 0 0, .bool false, .slice none 0 0]⟩), (5, ⟨160, i39.cs ++ i41.cs⟩), (6, ⟨160, i85.cs ++ i87.cs⟩), (8, ⟨160, i53.cs ++ i55.cs⟩)] (sq9 (zzh 36 (.v (.agg #[.bool i53.s, i53.m.v, .bool i55.s, i55.m.v])) ty160 zze (zzg 37 231 [.agg #[.bool i53.s, i53.m.v, .bool i55.s, i55.m.v]] ?_)))
  intro w92 u92 e92 d92
  have k95 := k_eTiny d92 (h54.ext (e84.trans (g90.ext.trans e92))) (h56.ext (e84.trans (g90.ext.trans e92))) xq
  with_reducible refine zPm k95 ?_
  rintro _ u93 g94 rfl
  refine zzb (zzt (b := decide ((Nt.cdiv (Nt.cdiv b ((n * n : Nat) : Int)) ((2 * j + 3 : Nat) : Int)) ≤ 1)) xj (fun hb96 => ?_) (fun hb96 => ?_))
  ·replace hb96 : (decide ((Nt.cdiv (Nt.cdiv b ((n * n : Nat) : Int)) ((2 * j + 3 : Nat) : Int)) ≤ 1)) = true := hb96
   have qhb96 := of_decide_eq_true hb96
   refine sq9 (zzh 38 (.v (.agg #[.bool i85.s, i85.m.v, .bool i87.s, i87.m.v])) ty160 zze (zzg 39 232 [.agg #[.bool i85.s, i85.m.v, .bool i87.s, i87.m.v]] ?_))
   intro w97 u97 e97 d97
   have k104 := k_eWider d97 (h86.ext (e92.trans (g94.ext.trans e97))) (h88.ext (e92.trans (g94.ext.trans e97))) xq
   with_reducible refine zPm k104 ?_
   rintro _ u102 g103 ⟨i98, i100, rfl, h99, h101⟩
   refine zzi ⟨160, i98.cs ++ i100.cs⟩ ty160 ?_
   refine zzb (zzn (zyt (zzv (zys (zyt (ret0 [.agg #[.bool i98.s, .slice i98.m.a i98.m.n i98.m.c, .bool i100.s, .slice i100.m.a i100.m.n i100.m.c]] ⟨zzq ty160 zze, trivial⟩ fun u105 e106 => ?_))))))
   have ho := hI.out xq (of_decide_eq_true hb96) (hI.add xq q2hb60) (by have h9 := hI.tw xq; omega)
   have hob := Nt.atR_bd ho xq
   exact ⟨i98, i100, _, _, rfl, IntN.lim2 (h99.ext e106) xq xq, IntN.lim2 (h101.ext e106) xq xq, ho⟩
  ·replace hb96 : (decide ((Nt.cdiv (Nt.cdiv b ((n * n : Nat) : Int)) ((2 * j + 3 : Nat) : Int)) ≤ 1)) = false := hb96
   have qhb96 := of_decide_eq_false hb96
   refine zzr (zzo ?_)
   refine zzf (zza 15 (zI (2 * j + 3 : Nat)) (zyp 16 (x := zI (IntKind.i64.wrap (((2 * j + 3 : Nat) : Int) + 2))) (zI (((2 * j + 3) + 2 : Nat) : Int)) (eqI xz) (zza 7 (zI (((2 * j + 3) + 2 : Nat) : Int)) (zzw ?_))))
   have hgo := hI.go xq (by have h9 := of_decide_eq_false hb96; omega) (hI.add xq q2hb60) (by have h9 := hI.tw xq; omega)
   have hb := hgo.1.bd xq
   have hp0 := hgo.1.p0
   have hp1 := hgo.1.p1
   have hple := hgo.1.p.le
   have hpp := hI.p1
   refine ⟨_, ?_, _, by exact zzu _ _ _, j + 1, i39, i41, i85, i87, (a / ((n * n : Nat) : Int)), (Nt.cdiv b ((n * n : Nat) : Int)), (cc + ((a / ((n * n : Nat) : Int)) / ((2 * j + 3 : Nat) : Int))), (dd + (Nt.cdiv (Nt.cdiv b ((n * n : Nat) : Int)) ((2 * j + 3 : Nat) : Int))), rfl, hgo.1, rfl, (e31.trans (e32.trans (g36.ext.trans (e38.trans (g44.ext.trans (e46.trans (g50.ext.trans (e52.trans (g58.ext.trans (e84.trans (g90.ext.trans (e92.trans g94.ext)))))))))))), (IntN.lim (h40.ext (e46.trans (g50.ext.trans (e52.trans (g58.ext.trans (e84.trans (g90.ext.trans (e92.trans g94.ext)))))))) xq xq), (IntN.lim (h42.ext (e46.trans (g50.ext.trans (e52.trans (g58.ext.trans (e84.trans (g90.ext.trans (e92.trans g94.ext)))))))) xq xq), (IntN.lim (h86.ext (e92.trans g94.ext)) xq xq), (IntN.lim (h88.ext (e92.trans g94.ext)) xq xq)⟩
   omega
set_option maxHeartbeats 1000000 in
theorem k_ePi {u w : World} {k : Nat} (d : Dat u w) (hk0 : 16 ≤ k) (hk : k ≤ 800) : Calls Tryz.prog 102 #[.int .i64 (k : Int)] w (Post u w fun v u' => ∃ (i j : IL) (a b : Int), v = SP i j ∧ IntN u' i a 42 ∧ IntN u' j b 42 ∧ Nt.PiR k a b) := by
 have hbig := Nt.big hk
 have hu2 := Nt.u2_pos k
 refine zzl (args := [.int .i64 k]) Tryz.func102 rfl Tryz.ntmps102 (rs := [.cell 2 160]) Tryz.results102 (le_b rfl) (le_b rfl) d ?_
 refine sq9 (zzj 2 ⟨160, [.bool false, .slice none 0 0, .bool false, .slice none 0 0]⟩ (zzb (sq9 (zza 3 (zI k) (zzg 4 182 [.int .i64 5, .int .i64 k] ?_)))))
 intro w11 u11 e11 d11
 have k15 := k_arctan d11 (n := 5) (k := k) xq xq xq
 with_reducible refine zPm k15 ?_
 rintro _ u13 g14 ⟨si12, sj12, sa12, sb12, rfl, ha12, hb12, hR12⟩
 refine zzg 5 183 [.agg #[.bool si12.s, si12.m.v, .bool sj12.s, sj12.m.v], .int .i64 16] ?_
 intro w16 u16 e16 d16
 have k23 := k_eTimes d16 (ha12.ext e16) (hb12.ext e16) (n9 := 16) xq xq
 with_reducible refine zPm k23 ?_
 rintro _ u21 g22 ⟨i17, i19, rfl, h18, h20⟩
 refine zza 6 (zI k) (zzg 7 182 [.int .i64 239, .int .i64 k] ?_)
 intro w24 u24 e24 d24
 have k28 := k_arctan d24 (n := 239) (k := k) xq xq xq
 with_reducible refine zPm k28 ?_
 rintro _ u26 g27 ⟨si25, sj25, sa25, sb25, rfl, ha25, hb25, hR25⟩
 refine zzg 8 183 [.agg #[.bool si25.s, si25.m.v, .bool sj25.s, sj25.m.v], .int .i64 4] ?_
 intro w29 u29 e29 d29
 have k36 := k_eTimes d29 (ha25.ext e29) (hb25.ext e29) (n9 := 4) xq xq
 with_reducible refine zPm k36 ?_
 rintro _ u34 g35 ⟨i30, i32, rfl, h31, h33⟩
 refine zzg 9 184 [.agg #[.bool i17.s, i17.m.v, .bool i19.s, i19.m.v], .agg #[.bool i30.s, i30.m.v, .bool i32.s, i32.m.v]] ?_
 intro w37 u37 e37 d37
 have k44 := k_eSub d37 (h18.ext (e24.trans (g27.ext.trans (e29.trans (g35.ext.trans e37))))) (h20.ext (e24.trans (g27.ext.trans (e29.trans (g35.ext.trans e37))))) (h31.ext e37) (h33.ext e37) xq xq
 with_reducible refine zPm k44 ?_
 rintro _ u42 g43 ⟨i38, i40, rfl, h39, h41⟩
 refine zzi ⟨160, i38.cs ++ i40.cs⟩ ty160 ?_
 refine zzb (zzn (ret0 [.agg #[.bool i38.s, .slice i38.m.a i38.m.n i38.m.c, .bool i40.s, .slice i40.m.a i40.m.n i40.m.c]] ⟨zzq ty160 zze, trivial⟩ fun u45 e46 => ?_))
 have hP := Nt.PiR.of hR12 hR25
 have hb9 := hP.bd hk0
 exact ⟨i38, i40, _, _, rfl, IntN.lim2 (h39.ext e46) xq xq, IntN.lim2 (h41.ext e46) xq xq, hP⟩
set_option maxHeartbeats 4000000 in
theorem k_cosineOf {u w : World} {p q k : Nat} (d : Dat u w) (hq0 : 0 < q) (hq : q ≤ 100000) (hp : 2 * p ≤ q) (hp1 : 1 ≤ p) (hk0 : 16 ≤ k) (hk : k ≤ 800) : Calls Tryz.prog 179 #[.int .i64 (p : Int), .int .i64 (q : Int), .int .i64 (k : Int)] w (Post u w fun v u' => ∃ (i j : IL) (a b : Int), v = SP i j ∧ IntN u' i a 42 ∧ IntN u' j b 42 ∧ Nt.CsR p q k a b) := by
 have hbig := Nt.big hk
 have hu2 := Nt.u2_pos k
 refine zzl (args := [.int .i64 p, .int .i64 q, .int .i64 k]) Tryz.func179 rfl Tryz.ntmps179 (rs := [.cell 6 160]) Tryz.results179 (le_b rfl) (le_b rfl) d ?_
 refine sq9 (zzj 6 ⟨160, [.bool false, .slice none 0 0, .bool false, .slice none 0 0]⟩ (zzb (sq9 (zza 12 (zI k) (zzg 13 102 [.int .i64 k] ?_)))))
 intro w11 u11 e11 d11
 have k15 := k_ePi d11 (k := k) xq xq
 with_reducible refine zPm k15 ?_
 rintro _ u13 g14 ⟨si12, sj12, sa12, sb12, rfl, ha12, hb12, hR12⟩
 refine zza 14 (zI p) (zzg 15 183 [.agg #[.bool si12.s, si12.m.v, .bool sj12.s, sj12.m.v], .int .i64 p] ?_)
 intro w16 u16 e16 d16
 have k23 := k_eTimes d16 (ha12.ext e16) (hb12.ext e16) (n9 := p) xq xq
 with_reducible refine zPm k23 ?_
 rintro _ u21 g22 ⟨i17, i19, rfl, h18, h20⟩
 refine zza 16 (zI q) (zzg 17 160 [.int .i64 q] ?_)
 intro w24 u24 e24 d24
 have k29 := k_intOf d24 (z := (q : Int)) xq xq
 with_reducible refine zPm k29 ?_
 rintro _ u27 g28 ⟨i25, rfl, h26⟩
 refine zzg 18 228 [.agg #[.bool i17.s, i17.m.v, .bool i19.s, i19.m.v], i25.v] ?_
 intro w30 u30 e30 d30
 have k37 := k_eOver d30 (h18.ext (e24.trans (g28.ext.trans e30))) (h20.ext (e24.trans (g28.ext.trans e30))) (h26.ext e30) xq xq xq
 with_reducible refine zPm k37 ?_
 rintro _ u35 g36 ⟨i31, i33, rfl, h32, h34⟩
 refine zzj 7 ⟨160, [.bool false, .slice none 0 0, .bool false, .slice none 0 0]⟩ (zzi ⟨160, i31.cs ++ i33.cs⟩ ty160 ?_)
 refine zzb (zzd ?_)
 have hY : Nt.CsY p q k ((sa12 * ((p : Nat) : Int)) / (q : Int)) (Nt.cdiv (sb12 * ((p : Nat) : Int)) (q : Int)) := Nt.CsY.of hR12 hk0 hq0 hp hp1
 refine zzf (zzh 19 (.v (.agg #[.bool i31.s, i31.m.v, .bool i33.s, i33.m.v])) ty160 zze (zzh 20 (.v (.agg #[.bool i31.s, i31.m.v, .bool i33.s, i33.m.v])) ty160 zze (zza 21 (zI k) (zzg 22 229 [.agg #[.bool i31.s, i31.m.v, .bool i33.s, i33.m.v], .agg #[.bool i31.s, i31.m.v, .bool i33.s, i33.m.v], .int .i64 k] ?_))))
 intro w38 u38 e38 d38
 have k45 := k_eProd (p := k) d38 (h32.ext e38) (h34.ext e38) (h32.ext e38) (h34.ext e38) xq xq xq
 with_reducible refine zPm k45 ?_
 rintro _ u43 g44 ⟨i39, i41, rfl, h40, h42⟩
 refine zzj 8 ⟨160, [.bool false, .slice none 0 0, .bool false, .slice none 0 0]⟩ (zzi ⟨160, i39.cs ++ i41.cs⟩ ty160 ?_)
 refine zzb (zzd ?_)
 have hQ : Nt.CsQ p q k (((sa12 * ((p : Nat) : Int)) / (q : Int)) * ((sa12 * ((p : Nat) : Int)) / (q : Int)) / Nt.u2 k) (Nt.cdiv ((Nt.cdiv (sb12 * ((p : Nat) : Int)) (q : Int)) * (Nt.cdiv (sb12 * ((p : Nat) : Int)) (q : Int))) (Nt.u2 k)) := Nt.CsQ.of hY
 obtain ⟨_, hQ2, hQ3, hQ4, hQ5, hQ6⟩ := id hQ
 obtain ⟨ql, hql⟩ : ∃ z : Int, (((sa12 * ((p : Nat) : Int)) / (q : Int)) * ((sa12 * ((p : Nat) : Int)) / (q : Int)) / Nt.u2 k) = z := ⟨_, rfl⟩
 obtain ⟨qh, hqh⟩ : ∃ z : Int, (Nt.cdiv ((Nt.cdiv (sb12 * ((p : Nat) : Int)) (q : Int)) * (Nt.cdiv (sb12 * ((p : Nat) : Int)) (q : Int))) (Nt.u2 k)) = z := ⟨_, rfl⟩
 have hs46 := h40
 have hs47 := h42
 rw [hql] at hQ hQ2 hQ3 hQ5 hs46
 rw [hqh] at hQ hQ2 hQ4 hQ5 hQ6 hs47
 have hs48 := IntN.lim2 hs46 xq xq
 have hs49 := IntN.lim2 hs47 xq xq
 refine zzf (zza 23 (zI k) (zzg 24 161 [.int .i64 k] ?_))
 intro w50 u50 e50 d50
 have k55 := k_eUnit (k := k) d50 xq
 with_reducible refine zPm k55 ?_
 rintro _ u53 g54 ⟨i51, rfl, h52⟩
 refine zzj 9 ⟨160, [.bool false, .slice none 0 0, .bool false, .slice none 0 0]⟩ (zzi ⟨160, i51.cs ++ i51.cs⟩ ty160 ?_)
 refine zzb (sq9 (zzh 25 (.v (.agg #[.bool i51.s, i51.m.v, .bool i51.s, i51.m.v])) ty160 zze (zzj 10 ⟨160, [.bool false, .slice none 0 0, .bool false, .slice none 0 0]⟩ (zzi ⟨160, i51.cs ++ i51.cs⟩ ty160 ?_))))
 refine zzb (sq9 (zza 11 (zI 2) (zzb (zzs (zym (I := fun m56 S' u' => ∃ (j : Nat) (x1 : IL) (x2 : IL) (y1 : IL) (y2 : IL) (tl : Int) (th : Int) (sl : Int) (sh : Int), (m56 = Nt.csM k j th) ∧ (Nt.CsI p q k j tl th sl sh) ∧ (S' = St.of 55 [(2, zI k), (6, .adr 6 0), (8, .adr 8 0), (9, .adr 9 0), (10, .adr 10 0), (11, zI (2 * j + 2 : Nat))] [(6, ⟨160, [.bool false, .slice none 0 0, .bool false, .slice none 0 0]⟩), (8, ⟨160, i39.cs ++ i41.cs⟩), (9, ⟨160, x1.cs ++ x2.cs⟩), (10, ⟨160, y1.cs ++ y2.cs⟩)]) ∧ (Ext u53 u') ∧ (IntN u' x1 tl 42) ∧ (IntN u' x2 th 42) ∧ (IntN u' y1 sl 42) ∧ (IntN u' y2 sh 42)) (fun m S u1 u2 e h => by obtain ⟨j, x1, x2, y1, y2, tl, th, sl, sh, hm, p0, hS, hE, f0, f1, f2, f3⟩ := h; exact ⟨j, x1, x2, y1, y2, tl, th, sl, sh, hm, p0, hS, hE.trans e, f0.ext e, f1.ext e, f2.ext e, f3.ext e⟩) _ yw ⟨0, i51, i51, i51, i51, (Nt.u2 k), (Nt.u2 k), (Nt.u2 k), (Nt.u2 k), rfl, Nt.CsI.start, rfl, (Ext.refl _), (IntN.lim2 h52 xq xq), (IntN.lim2 h52 xq xq), (IntN.lim2 h52 xq xq), (IntN.lim2 h52 xq xq)⟩ ?_)))))
 rintro m56 _ u56 ⟨j, x1, x2, y1, y2, tl, th, sl, sh, hm56, hI, rfl, e56, f0, f1, f2, f3⟩
 have hjw := hI.c.jw
 have hD1 := Nt.coD_pos j
 have hD2 := Nt.coD_mul (j := j) xq
 refine zzd (zzs (sq9 (zzh 28 (.v (.agg #[.bool x1.s, x1.m.v, .bool x2.s, x2.m.v])) ty160 zze (zzh 29 (.v (.agg #[.bool i39.s, i39.m.v, .bool i41.s, i41.m.v])) ty160 zze (zza 30 (zI k) (zzg 31 229 [.agg #[.bool x1.s, x1.m.v, .bool x2.s, x2.m.v], .agg #[.bool i39.s, i39.m.v, .bool i41.s, i41.m.v], .int .i64 k] ?_))))))
 intro w57 u57 e57 d57
 have k64 := k_eProd (p := k) d57 (f0.ext e57) (f1.ext e57) (hs48.ext (e50.trans (g54.ext.trans (e56.trans e57)))) (hs49.ext (e50.trans (g54.ext.trans (e56.trans e57)))) xq xq xq
 with_reducible refine zPm k64 ?_
 rintro _ u62 g63 ⟨i58, i60, rfl, h59, h61⟩
 refine zza 32 (zI (2 * j + 2 : Nat)) (zza 33 (zI (2 * j + 2 : Nat)) (zyp 34 (x := zI (IntKind.i64.wrap (((2 * j + 2 : Nat) : Int) - 1))) (zI (((2 * j + 2) - 1 : Nat) : Int)) (eqI xz) (zyp 35 (x := zI (IntKind.i64.wrap (((2 * j + 2 : Nat) : Int) * ((2 * j + 2 - 1 : Nat) : Int)))) (zI (Nt.coD j)) (by rw [show (IntKind.i64.wrap (((2 * j + 2 : Nat) : Int) * ((2 * j + 2 - 1 : Nat) : Int))) = (Nt.coD j) from hD2.1]) (zzg 36 160 [.int .i64 (Nt.coD j)] ?_))))
 intro w65 u65 e65 d65
 have k70 := k_intOf d65 (z := (Nt.coD j)) xq xq
 with_reducible refine zPm k70 ?_
 rintro _ u68 g69 ⟨i66, rfl, h67⟩
 refine zzg 37 228 [.agg #[.bool i58.s, i58.m.v, .bool i60.s, i60.m.v], i66.v] ?_
 intro w71 u71 e71 d71
 have k78 := k_eOver d71 (h59.ext (e65.trans (g69.ext.trans e71))) (h61.ext (e65.trans (g69.ext.trans e71))) (h67.ext e71) xq xq xq
 with_reducible refine zPm k78 ?_
 rintro _ u76 g77 ⟨i72, i74, rfl, h73, h75⟩
 refine zzi ⟨160, i72.cs ++ i74.cs⟩ ty160 ?_
 refine zzc 55 [(2, zI k), (6, .adr 6 0), (8, .adr 8 0), (9, .adr 9 0), (10, .adr 10 0), (11, zI (2 * j + 2 : Nat))] [(6, ⟨160, [.bool false, .slice none 0 0, .bool false, .slice none 0 0]⟩), (8, ⟨160, i39.cs ++ i41.cs⟩), (9, ⟨160, i72.cs ++ i74.cs⟩), (10, ⟨160, y1.cs ++ y2.cs⟩)] (zzd (sq9 (zza 38 (zI (2 * j + 2 : Nat)) (zza 39 (zI (Int.tmod ((2 * j + 2 : Nat) : Int) 4)) (zza 40 (zB ((Int.tmod ((2 * j + 2 : Nat) : Int) 4) == 2)) (zzb (zzt (b := (Int.tmod ((2 * j + 2 : Nat) : Int) 4) == 2) xj (fun hb79 => ?_) (fun hb79 => ?_))))))))
 ·replace hb79 : ((Int.tmod ((2 * j + 2 : Nat) : Int) 4) == 2) = true := hb79
  have ehb79 : Int.tmod ((2 * j + 2 : Nat) : Int) 4 = ((2 * j + 2 : Nat) : Int) % 4 := Int.tmod_eq_emod_of_nonneg xq
  have q2hb79 :  j % 2 = 0 := by have h9 := hb79; rw [ehb79] at h9; simp at h9; omega
  refine zzf (zzh 41 (.v (.agg #[.bool y1.s, y1.m.v, .bool y2.s, y2.m.v])) ty160 zze (zzh 42 (.v (.agg #[.bool i72.s, i72.m.v, .bool i74.s, i74.m.v])) ty160 zze (zzg 43 184 [.agg #[.bool y1.s, y1.m.v, .bool y2.s, y2.m.v], .agg #[.bool i72.s, i72.m.v, .bool i74.s, i74.m.v]] ?_)))
  intro w80 u80 e80 d80
  have k87 := k_eSub d80 (f2.ext (e57.trans (g63.ext.trans (e65.trans (g69.ext.trans (e71.trans (g77.ext.trans e80))))))) (f3.ext (e57.trans (g63.ext.trans (e65.trans (g69.ext.trans (e71.trans (g77.ext.trans e80))))))) (h73.ext e80) (h75.ext e80) xq xq
  with_reducible refine zPm k87 ?_
  rintro _ u85 g86 ⟨i81, i83, rfl, h82, h84⟩
  refine zzi ⟨160, i81.cs ++ i83.cs⟩ ty160 ?_
  refine zzb (sq9 (zza 47 (zI (2 * j + 2 : Nat)) (zza 48 (zB (decide ((4 : Int) ≤ ((2 * j + 2 : Nat) : Int)))) ?_)))
  rcases Bool.eq_false_or_eq_true (decide ((4 : Int) ≤ ((2 * j + 2 : Nat) : Int))) with hs88 | hs88
  ·refine zyp 49 (x := zB (decide ((4 : Int) ≤ ((2 * j + 2 : Nat) : Int)))) (zB true) (by rw [hs88]) ?_
   have qhs88 := of_decide_eq_true hs88
   refine zzh 50 (.v (.agg #[.bool i72.s, i72.m.v, .bool i74.s, i74.m.v])) ty160 zze ?_ (hw := w1 2 true 49)
   refine zzg 51 231 [.agg #[.bool i72.s, i72.m.v, .bool i74.s, i74.m.v]] ?_ (hw := w1 2 true 49)
   intro w89 u89 e89 d89
   have k92 := k_eTiny d89 (h73.ext (e80.trans (g86.ext.trans e89))) (h75.ext (e80.trans (g86.ext.trans e89))) xq
   with_reducible refine zPm k92 ?_
   rintro _ u90 g91 rfl
   refine zza 52 (zB (decide ((Nt.cdiv (Nt.cdiv (th * qh) (Nt.u2 k)) (Nt.coD j)) ≤ 1))) (zzb (zzt (b := decide ((Nt.cdiv (Nt.cdiv (th * qh) (Nt.u2 k)) (Nt.coD j)) ≤ 1)) xj (fun hb93 => ?_) (fun hb93 => ?_)))
   ·replace hb93 : (decide ((Nt.cdiv (Nt.cdiv (th * qh) (Nt.u2 k)) (Nt.coD j)) ≤ 1)) = true := hb93
    have qhb93 := of_decide_eq_true hb93
    refine sq9 (zzh 53 (.v (.agg #[.bool i81.s, i81.m.v, .bool i83.s, i83.m.v])) ty160 zze (zzg 54 232 [.agg #[.bool i81.s, i81.m.v, .bool i83.s, i83.m.v]] ?_))
    intro w94 u94 e94 d94
    have k101 := k_eWider d94 (h82.ext (e89.trans (g91.ext.trans e94))) (h84.ext (e89.trans (g91.ext.trans e94))) xq
    with_reducible refine zPm k101 ?_
    rintro _ u99 g100 ⟨i95, i97, rfl, h96, h98⟩
    refine zzi ⟨160, i95.cs ++ i97.cs⟩ ty160 ?_
    refine zzb (zzn (zyt (zzv (zys (zyt (ret0 [.agg #[.bool i95.s, .slice i95.m.a i95.m.n i95.m.c, .bool i97.s, .slice i97.m.a i97.m.n i97.m.c]] ⟨zzq ty160 zze, trivial⟩ fun u102 e103 => ?_))))))
    have ho := hI.out hQ hq0 hp (by have h9 := of_decide_eq_true hs88; omega) (of_decide_eq_true hb93) (sl' := (sl - (Nt.cdiv (Nt.cdiv (th * qh) (Nt.u2 k)) (Nt.coD j)))) (sh' := (sh - ((tl * ql / Nt.u2 k) / (Nt.coD j)))) (.inl ⟨q2hb79, rfl, rfl⟩)
    have hob := Nt.csR_bd ho hq0 hp hk
    exact ⟨i95, i97, _, _, rfl, IntN.lim2 (h96.ext e103) xq xq, IntN.lim2 (h98.ext e103) xq xq, ho⟩
   ·replace hb93 : (decide ((Nt.cdiv (Nt.cdiv (th * qh) (Nt.u2 k)) (Nt.coD j)) ≤ 1)) = false := hb93
    have qhb93 := of_decide_eq_false hb93
    refine zzr (zzo ?_)
    refine zzf (zza 26 (zI (2 * j + 2 : Nat)) (zyp 27 (x := zI (IntKind.i64.wrap (((2 * j + 2 : Nat) : Int) + 2))) (zI (((2 * j + 2) + 2 : Nat) : Int)) (eqI xz) (zza 11 (zI (((2 * j + 2) + 2 : Nat) : Int)) (zzw ?_))))
    have hgo := hI.go hQ (.inr (by have h9 : ¬ Nt.csH k j th qh ≤ 1 := of_decide_eq_false hb93; omega)) (sl' := (sl - (Nt.cdiv (Nt.cdiv (th * qh) (Nt.u2 k)) (Nt.coD j)))) (sh' := (sh - ((tl * ql / Nt.u2 k) / (Nt.coD j)))) (.inl ⟨q2hb79, rfl, rfl⟩)
    have hb9 := hgo.1.bd hq0 hp
    have hw9 := Nt.csW_le hk
    have ht0 := hgo.1.c.t0
    have ht1 := hgo.1.c.t1
    have htt := hgo.1.c.tt
    have ht2 := hgo.1.c.t2
    have hmm := hgo.2
    simp only [Nt.csL, Nt.csH] at ht0 ht1 htt ht2 hmm
    refine ⟨_, ?_, _, by exact zzu _ _ _, j + 1, i72, i74, i81, i83, ((tl * ql / Nt.u2 k) / (Nt.coD j)), (Nt.cdiv (Nt.cdiv (th * qh) (Nt.u2 k)) (Nt.coD j)), (sl - (Nt.cdiv (Nt.cdiv (th * qh) (Nt.u2 k)) (Nt.coD j))), (sh - ((tl * ql / Nt.u2 k) / (Nt.coD j))), rfl, hgo.1, rfl, (e56.trans (e57.trans (g63.ext.trans (e65.trans (g69.ext.trans (e71.trans (g77.ext.trans (e80.trans (g86.ext.trans (e89.trans g91.ext)))))))))), (IntN.lim2 (h73.ext (e80.trans (g86.ext.trans (e89.trans g91.ext)))) xq xq), (IntN.lim2 (h75.ext (e80.trans (g86.ext.trans (e89.trans g91.ext)))) xq xq), (IntN.lim2 (h82.ext (e89.trans g91.ext)) xq xq), (IntN.lim2 (h84.ext (e89.trans g91.ext)) xq xq)⟩
    omega
  ·refine zyp 49 (x := zB (decide ((4 : Int) ≤ ((2 * j + 2 : Nat) : Int)))) (zB false) (by rw [hs88]) ?_
   have qhs88 := of_decide_eq_false hs88
   refine zzm 50 (uw 2 true false 49) (zzm 51 (uw 2 true false 49) (zza 52 (zB false) (zzb (zyr xj (zzr (zzo ?_))))))
   refine zzf (zza 26 (zI (2 * j + 2 : Nat)) (zyp 27 (x := zI (IntKind.i64.wrap (((2 * j + 2 : Nat) : Int) + 2))) (zI (((2 * j + 2) + 2 : Nat) : Int)) (eqI xz) (zza 11 (zI (((2 * j + 2) + 2 : Nat) : Int)) (zzw ?_))))
   have hgo := hI.go hQ (.inl (by have h9 := of_decide_eq_false hs88; omega)) (sl' := (sl - (Nt.cdiv (Nt.cdiv (th * qh) (Nt.u2 k)) (Nt.coD j)))) (sh' := (sh - ((tl * ql / Nt.u2 k) / (Nt.coD j)))) (.inl ⟨q2hb79, rfl, rfl⟩)
   have hb9 := hgo.1.bd hq0 hp
   have hw9 := Nt.csW_le hk
   have ht0 := hgo.1.c.t0
   have ht1 := hgo.1.c.t1
   have htt := hgo.1.c.tt
   have ht2 := hgo.1.c.t2
   have hmm := hgo.2
   simp only [Nt.csL, Nt.csH] at ht0 ht1 htt ht2 hmm
   refine ⟨_, ?_, _, by exact zzu _ _ _, j + 1, i72, i74, i81, i83, ((tl * ql / Nt.u2 k) / (Nt.coD j)), (Nt.cdiv (Nt.cdiv (th * qh) (Nt.u2 k)) (Nt.coD j)), (sl - (Nt.cdiv (Nt.cdiv (th * qh) (Nt.u2 k)) (Nt.coD j))), (sh - ((tl * ql / Nt.u2 k) / (Nt.coD j))), rfl, hgo.1, rfl, (e56.trans (e57.trans (g63.ext.trans (e65.trans (g69.ext.trans (e71.trans (g77.ext.trans (e80.trans g86.ext)))))))), (IntN.lim2 (h73.ext (e80.trans g86.ext)) xq xq), (IntN.lim2 (h75.ext (e80.trans g86.ext)) xq xq), (IntN.lim2 h82 xq xq), (IntN.lim2 h84 xq xq)⟩
   omega
 ·replace hb79 : ((Int.tmod ((2 * j + 2 : Nat) : Int) 4) == 2) = false := hb79
  have ehb79 : Int.tmod ((2 * j + 2 : Nat) : Int) 4 = ((2 * j + 2 : Nat) : Int) % 4 := Int.tmod_eq_emod_of_nonneg xq
  have q2hb79 : ¬ j % 2 = 0 := by have h9 := hb79; rw [ehb79] at h9; simp at h9; omega
  refine zzf (zzh 44 (.v (.agg #[.bool y1.s, y1.m.v, .bool y2.s, y2.m.v])) ty160 zze (zzh 45 (.v (.agg #[.bool i72.s, i72.m.v, .bool i74.s, i74.m.v])) ty160 zze (zzg 46 230 [.agg #[.bool y1.s, y1.m.v, .bool y2.s, y2.m.v], .agg #[.bool i72.s, i72.m.v, .bool i74.s, i74.m.v]] ?_)))
  intro w104 u104 e104 d104
  have k111 := k_eAdd d104 (f2.ext (e57.trans (g63.ext.trans (e65.trans (g69.ext.trans (e71.trans (g77.ext.trans e104))))))) (f3.ext (e57.trans (g63.ext.trans (e65.trans (g69.ext.trans (e71.trans (g77.ext.trans e104))))))) (h73.ext e104) (h75.ext e104) xq xq
  with_reducible refine zPm k111 ?_
  rintro _ u109 g110 ⟨i105, i107, rfl, h106, h108⟩
  refine zzi ⟨160, i105.cs ++ i107.cs⟩ ty160 ?_
  refine zzb (sq9 (zza 47 (zI (2 * j + 2 : Nat)) (zza 48 (zB (decide ((4 : Int) ≤ ((2 * j + 2 : Nat) : Int)))) ?_)))
  rcases Bool.eq_false_or_eq_true (decide ((4 : Int) ≤ ((2 * j + 2 : Nat) : Int))) with hs112 | hs112
  ·refine zyp 49 (x := zB (decide ((4 : Int) ≤ ((2 * j + 2 : Nat) : Int)))) (zB true) (by rw [hs112]) ?_
   have qhs112 := of_decide_eq_true hs112
   refine zzh 50 (.v (.agg #[.bool i72.s, i72.m.v, .bool i74.s, i74.m.v])) ty160 zze ?_ (hw := w1 2 true 49)
   refine zzg 51 231 [.agg #[.bool i72.s, i72.m.v, .bool i74.s, i74.m.v]] ?_ (hw := w1 2 true 49)
   intro w113 u113 e113 d113
   have k116 := k_eTiny d113 (h73.ext (e104.trans (g110.ext.trans e113))) (h75.ext (e104.trans (g110.ext.trans e113))) xq
   with_reducible refine zPm k116 ?_
   rintro _ u114 g115 rfl
   refine zza 52 (zB (decide ((Nt.cdiv (Nt.cdiv (th * qh) (Nt.u2 k)) (Nt.coD j)) ≤ 1))) (zzb (zzt (b := decide ((Nt.cdiv (Nt.cdiv (th * qh) (Nt.u2 k)) (Nt.coD j)) ≤ 1)) xj (fun hb117 => ?_) (fun hb117 => ?_)))
   ·replace hb117 : (decide ((Nt.cdiv (Nt.cdiv (th * qh) (Nt.u2 k)) (Nt.coD j)) ≤ 1)) = true := hb117
    have qhb117 := of_decide_eq_true hb117
    refine sq9 (zzh 53 (.v (.agg #[.bool i105.s, i105.m.v, .bool i107.s, i107.m.v])) ty160 zze (zzg 54 232 [.agg #[.bool i105.s, i105.m.v, .bool i107.s, i107.m.v]] ?_))
    intro w118 u118 e118 d118
    have k125 := k_eWider d118 (h106.ext (e113.trans (g115.ext.trans e118))) (h108.ext (e113.trans (g115.ext.trans e118))) xq
    with_reducible refine zPm k125 ?_
    rintro _ u123 g124 ⟨i119, i121, rfl, h120, h122⟩
    refine zzi ⟨160, i119.cs ++ i121.cs⟩ ty160 ?_
    refine zzb (zzn (zyt (zzv (zys (zyt (ret0 [.agg #[.bool i119.s, .slice i119.m.a i119.m.n i119.m.c, .bool i121.s, .slice i121.m.a i121.m.n i121.m.c]] ⟨zzq ty160 zze, trivial⟩ fun u126 e127 => ?_))))))
    have ho := hI.out hQ hq0 hp (by have h9 := of_decide_eq_true hs112; omega) (of_decide_eq_true hb117) (sl' := (sl + ((tl * ql / Nt.u2 k) / (Nt.coD j)))) (sh' := (sh + (Nt.cdiv (Nt.cdiv (th * qh) (Nt.u2 k)) (Nt.coD j)))) (.inr ⟨q2hb79, rfl, rfl⟩)
    have hob := Nt.csR_bd ho hq0 hp hk
    exact ⟨i119, i121, _, _, rfl, IntN.lim2 (h120.ext e127) xq xq, IntN.lim2 (h122.ext e127) xq xq, ho⟩
   ·replace hb117 : (decide ((Nt.cdiv (Nt.cdiv (th * qh) (Nt.u2 k)) (Nt.coD j)) ≤ 1)) = false := hb117
    have qhb117 := of_decide_eq_false hb117
    refine zzr (zzo ?_)
    refine zzf (zza 26 (zI (2 * j + 2 : Nat)) (zyp 27 (x := zI (IntKind.i64.wrap (((2 * j + 2 : Nat) : Int) + 2))) (zI (((2 * j + 2) + 2 : Nat) : Int)) (eqI xz) (zza 11 (zI (((2 * j + 2) + 2 : Nat) : Int)) (zzw ?_))))
    have hgo := hI.go hQ (.inr (by have h9 : ¬ Nt.csH k j th qh ≤ 1 := of_decide_eq_false hb117; omega)) (sl' := (sl + ((tl * ql / Nt.u2 k) / (Nt.coD j)))) (sh' := (sh + (Nt.cdiv (Nt.cdiv (th * qh) (Nt.u2 k)) (Nt.coD j)))) (.inr ⟨q2hb79, rfl, rfl⟩)
    have hb9 := hgo.1.bd hq0 hp
    have hw9 := Nt.csW_le hk
    have ht0 := hgo.1.c.t0
    have ht1 := hgo.1.c.t1
    have htt := hgo.1.c.tt
    have ht2 := hgo.1.c.t2
    have hmm := hgo.2
    simp only [Nt.csL, Nt.csH] at ht0 ht1 htt ht2 hmm
    refine ⟨_, ?_, _, by exact zzu _ _ _, j + 1, i72, i74, i105, i107, ((tl * ql / Nt.u2 k) / (Nt.coD j)), (Nt.cdiv (Nt.cdiv (th * qh) (Nt.u2 k)) (Nt.coD j)), (sl + ((tl * ql / Nt.u2 k) / (Nt.coD j))), (sh + (Nt.cdiv (Nt.cdiv (th * qh) (Nt.u2 k)) (Nt.coD j))), rfl, hgo.1, rfl, (e56.trans (e57.trans (g63.ext.trans (e65.trans (g69.ext.trans (e71.trans (g77.ext.trans (e104.trans (g110.ext.trans (e113.trans g115.ext)))))))))), (IntN.lim2 (h73.ext (e104.trans (g110.ext.trans (e113.trans g115.ext)))) xq xq), (IntN.lim2 (h75.ext (e104.trans (g110.ext.trans (e113.trans g115.ext)))) xq xq), (IntN.lim2 (h106.ext (e113.trans g115.ext)) xq xq), (IntN.lim2 (h108.ext (e113.trans g115.ext)) xq xq)⟩
    omega
  ·refine zyp 49 (x := zB (decide ((4 : Int) ≤ ((2 * j + 2 : Nat) : Int)))) (zB false) (by rw [hs112]) ?_
   have qhs112 := of_decide_eq_false hs112
   refine zzm 50 (uw 2 true false 49) (zzm 51 (uw 2 true false 49) (zza 52 (zB false) (zzb (zyr xj (zzr (zzo ?_))))))
   refine zzf (zza 26 (zI (2 * j + 2 : Nat)) (zyp 27 (x := zI (IntKind.i64.wrap (((2 * j + 2 : Nat) : Int) + 2))) (zI (((2 * j + 2) + 2 : Nat) : Int)) (eqI xz) (zza 11 (zI (((2 * j + 2) + 2 : Nat) : Int)) (zzw ?_))))
   have hgo := hI.go hQ (.inl (by have h9 := of_decide_eq_false hs112; omega)) (sl' := (sl + ((tl * ql / Nt.u2 k) / (Nt.coD j)))) (sh' := (sh + (Nt.cdiv (Nt.cdiv (th * qh) (Nt.u2 k)) (Nt.coD j)))) (.inr ⟨q2hb79, rfl, rfl⟩)
   have hb9 := hgo.1.bd hq0 hp
   have hw9 := Nt.csW_le hk
   have ht0 := hgo.1.c.t0
   have ht1 := hgo.1.c.t1
   have htt := hgo.1.c.tt
   have ht2 := hgo.1.c.t2
   have hmm := hgo.2
   simp only [Nt.csL, Nt.csH] at ht0 ht1 htt ht2 hmm
   refine ⟨_, ?_, _, by exact zzu _ _ _, j + 1, i72, i74, i105, i107, ((tl * ql / Nt.u2 k) / (Nt.coD j)), (Nt.cdiv (Nt.cdiv (th * qh) (Nt.u2 k)) (Nt.coD j)), (sl + ((tl * ql / Nt.u2 k) / (Nt.coD j))), (sh + (Nt.cdiv (Nt.cdiv (th * qh) (Nt.u2 k)) (Nt.coD j))), rfl, hgo.1, rfl, (e56.trans (e57.trans (g63.ext.trans (e65.trans (g69.ext.trans (e71.trans (g77.ext.trans (e104.trans g110.ext)))))))), (IntN.lim2 (h73.ext (e104.trans g110.ext)) xq xq), (IntN.lim2 (h75.ext (e104.trans g110.ext)) xq xq), (IntN.lim2 h106 xq xq), (IntN.lim2 h108 xq xq)⟩
   omega
section
variable (P : Program) (w0 : Base) (u0 : World)
def MP.into (I : Nat → St → World → Prop) (Q : MP) (hI : ∀ m, Mono (I m)) : MP where
 f e S u := match e with | .normal => ∃ m T, Weak S T ∧ I m T u | .goto _ => False | e => Q.f e S u
 mono e := by
  cases e <;> first | exact Q.mono _ | skip
  ·rintro S u u' he ⟨m, T, h1, h2⟩
   exact ⟨m, T, h1, hI m T u u' he h2⟩
  ·exact fun S u u' he h => h
def MP.jump (l : Nat) (I : Nat → St → World → Prop) (n : Nat) (Q : MP) (hI : ∀ m, Mono (I m)) : MP where
 f e S u := match e with | .goto l' => l' = l ∧ ∃ m, m < n ∧ ∃ T, Weak S T ∧ I m T u | e => Q.f e S u
 mono e := by
  cases e <;> first | exact Q.mono _ | skip
  rintro S u u' he ⟨hl, m, hm, T, h1, h2⟩
  exact ⟨hl, m, hm, T, h1, hI m T u u' he h2⟩
end
section
variable {P : Program} {w0 : Base} {u0 : World} {S T : St} {B : Tmp → Nat} {a : Act} {w u u' : World} {Q : MP} {c d A R : Code}
theorem sw_goto {l : Nat} (h : Q.f (.goto l) S u) : SW P w0 u0 (.goto l) S u Q := fun B a w u' e hr => wp_goto ⟨S, B, u', hr, Q.mono _ _ _ _ e h⟩
theorem mpg_seq {l : Nat} {c : Code} {Q : MP} (h : Q.f (.goto l) S u) : (MP.seq P w0 u0 c Q).f (.goto l) S u := h
theorem mpg_jump {l n m : Nat} {I : Nat → St → World → Prop} {Q : MP} {hI : ∀ m, Mono (I m)} (hm : m < n) (hw : Weak S T) (h : I m T u) : (MP.jump l I n Q hI).f (.goto l) S u := ⟨rfl, m, hm, T, hw, h⟩
theorem mpr_jump {l n : Nat} {I : Nat → St → World → Prop} {Q : MP} {hI : ∀ m, Mono (I m)} (h : Q.f .ret S u) : (MP.jump l I n Q hI).f .ret S u := h
theorem mpi_into {m : Nat} {I : Nat → St → World → Prop} {Q : MP} {hI : ∀ m, Mono (I m)} (hw : Weak S T) (h : I m T u) : (MP.into I Q hI).f .normal S u := ⟨m, T, hw, h⟩
theorem sw_scope {l : Nat} {I : Nat → St → World → Prop} (hI : ∀ m, Mono (I m)) (hf : findLabel (.seq A (.seq (.label l) R)) l = some (.seq .skip R)) (hA : SW P w0 u0 A S u (MP.into I Q hI)) (h : ∀ n S u, I n S u → SW P w0 u0 R S u (MP.jump l I n Q hI)) : SW P w0 u0 (.scope (.seq A (.seq (.label l) R))) S u Q := by
 intro B a w u' e hr
 let J : Nat → Act → World → Prop := fun n a w => ∃ S B u'', Rep w0 u0 S B a w u'' ∧ I n S u''
 let μ : Act → World → Nat := fun a w => Classical.epsilon fun m => J m a w ∧ ∀ k, J k a w → m ≤ k
 have hμ : ∀ a w n, J n a w → J (μ a w) a w ∧ μ a w ≤ n := fun a w n hn => by
  have := Classical.epsilon_spec (p := fun m => J m a w ∧ ∀ k, J k a w → m ≤ k) (least n hn)
  exact ⟨this.1, this.2 n hn⟩
 refine wp_scope_jumps l (fun a w => ∃ n, J n a w) μ hf ?_ ?_
 ·refine wp_seq (wp_mono (hA B a w u' e hr) fun ex a' w' ⟨S', B', u'', k1, k3⟩ => ?_)
  cases ex with
  | normal =>
   obtain ⟨m, T', t1, t2⟩ := k3
   refine wp_seq (wp_label ?_)
   refine wp_mono (h m T' u'' t2 B' a' w' u'' (Ext.refl _) (k1.weak t1)) fun ex a' w' ⟨S', B', u'', k1, k3⟩ => ?_
   cases ex with
   | goto l' =>
    obtain ⟨rfl, m, hm, T', t1, t2⟩ := k3
    exact ⟨rfl, m, T', B', u'', k1.weak t1, t2⟩
   | _ => exact ⟨S', B', u'', k1, k3⟩
  | goto l' => exact k3.elim
  | _ => exact ⟨S', B', u'', k1, k3⟩
 ·rintro a w ⟨n, hn⟩
  obtain ⟨S1, B1, u1, r1, i1⟩ := (hμ a w n hn).1
  refine wp_seq (wp_skip ?_)
  refine wp_mono (h _ S1 u1 i1 B1 a w u1 (Ext.refl _) r1) fun ex a' w' ⟨S', B', u'', k1, k3⟩ => ?_
  cases ex with
  | goto l' =>
   obtain ⟨rfl, m, hm, T', t1, t2⟩ := k3
   have hJ : J m a' w' := ⟨T', B', u'', k1.weak t1, t2⟩
   exact ⟨rfl, ⟨m, hJ⟩, Nat.lt_of_le_of_lt (hμ a' w' m hJ).2 hm⟩
  | _ => exact ⟨S', B', u'', k1, k3⟩
end
theorem k_ratMake {u w : World} {i j : IL} {z D : Int} {K L : Nat} (d : Dat u w) (hi : IntN u i z K) (hj : IntN u j D L) (hD : 0 < D) (hK : K ≤ 1000000) (hL : L ≤ 1000000) : Calls Tryz.prog 162 #[i.v, j.v] w (Post u w fun v u' => ∃ r : RL, v = .tuple #[r.v, .int .i64 0] ∧ RatN u' r ((z : Rat) / (D : Rat)) (K + L + 1)) := by
 refine zzl (args := [i.v, j.v]) Tryz.func162 rfl Tryz.ntmps162 (rs := [.cell 4 26, .tmp 5]) Tryz.results162 (le_b rfl) (le_b rfl) d ?_
 refine sq9 (zzj 2 ⟨24, i.cs⟩ (zzj 3 ⟨24, j.cs⟩ (zzj 4 ⟨26, [.bool false, .slice none 0 0, .slice none 0 0]⟩ (zza 5 (zI 0) (zzb (zzd (sq9 (zzh 6 (.v (j.v)) ty24 zze (zzg 7 146 [j.v] ?_)))))))))
 intro w11 u11 e11 d11
 have k14 := k_intSign d11 (hj.ext e11).raw
 with_reducible refine zPm k14 ?_
 rintro _ u12 g13 rfl
 refine zza 8 (zB ((Nt.cmpS D 0) == 0)) (zzb (zzt (b := (Nt.cmpS D 0) == 0) xj (fun hb => ?_) (fun hb => ?_)))
 ·exact absurd hb (by rw [show ((Nt.cmpS D 0) == 0) = false from (by rw [Nt.cmp_gt hD]; rfl)]; decide)
 ·clear hb
  refine zzr (zzo ?_)
  refine sq9 (zzh 10 (.v (i.v)) ty24 zze (zzh 11 (.v (j.v)) ty24 zze (zzg 12 196 [i.v, j.v] ?_)))
  intro w15 u15 e15 d15
  have k18 := k_quotient (i := i) (j := j) d15
  with_reducible refine zPm k18 ?_
  rintro _ u16 g17 rfl
  refine zzg 13 148 [.agg #[.bool (!(i.s == j.s)), i.m.v, j.m.v]] ?_
  intro w19 u19 e19 d19
  have k24 := k_lowest d19 ((quot_int (hi.ext (e11.trans (g13.ext.trans (e15.trans g17.ext)))) (hj.ext (e11.trans (g13.ext.trans (e15.trans g17.ext))))).ext e19) ((int_mag (hj.ext (e11.trans (g13.ext.trans (e15.trans g17.ext))))).ext e19).raw (show 0 < (D : Int).natAbs by omega) xq xq
  with_reducible refine zPm k24 ?_
  rintro _ u22 g23 ⟨r20, rfl, h21⟩
  refine zzi ⟨26, r20.cs⟩ ty26 ?_
  refine zza 5 (zI 0) (zzb (zzn (ret0 [r20.v, .int .i64 0] ⟨zzq ty26 zze, zzp, trivial⟩ fun u25 e26 => ?_)))
  refine ⟨r20, rfl, RatN.more (K := (max K L)) ?_ xq⟩
  rw [← Nt.div_mk2 xq]
  exact (h21.ext e26)
theorem k_betweenN {u w : World} {i : IL} {z : Int} {k K : Nat} (d : Dat u w) (hi : IntN u i z K) (hk : k ≤ 256) (hK0 : 1 ≤ K) (hK : K ≤ 900000) : Calls Tryz.prog 84 #[i.v, .bool false, .int .i64 (k : Int)] w (Post u w fun v u' => ∃ r1 r2 : RL, v = IV r1 r2 ∧ RatN u' r1 (Nt.gr k z) (K + 20) ∧ RatN u' r2 (Nt.gr k (z + 1)) (K + 20)) := by
 refine zzl (args := [i.v, .bool false, .int .i64 k]) Tryz.func84 rfl Tryz.ntmps84 (rs := [.cell 6 32]) Tryz.results84 (le_b rfl) (le_b rfl) d ?_
 refine sq9 (zzj 3 ⟨24, i.cs⟩ (zzj 6 ⟨32, [.bool false, .slice none 0 0, .slice none 0 0, .bool false, .slice none 0 0, .slice none 0 0]⟩ (zzb (sq9 (zzh 13 (.v (i.v)) ty24 zze (zzj 7 ⟨24, [.bool false, .slice none 0 0]⟩ (zzi ⟨24, i.cs⟩ ty24 ?_)))))))
 refine zzb (zzd (sq9 (zza 14 (zB false) (zza 15 (zB true) (zzb (zyq xj (zzy [0, 0, 3, 7] [(0, []), (1, []), (2, []), (3, [])] xj xj (zzh 16 (.v (i.v)) ty24 zze (zzg 17 160 [.int .i64 1] ?_)))))))))
 intro w11 u11 e11 d11
 have k16 := k_intOf d11 (z := 1) xq xq
 with_reducible refine zPm k16 ?_
 rintro _ u14 g15 ⟨i12, rfl, h13⟩
 refine zzg 18 159 [i.v, i12.v] ?_
 intro w17 u17 e17 d17
 have k22 := k_intAdd d17 (hi.ext (e11.trans (g15.ext.trans e17))).raw (h13.ext e17).raw xq xq
 with_reducible refine zPm k22 ?_
 rintro _ u20 g21 ⟨i18, rfl, h19⟩
 refine zzi ⟨24, i18.cs⟩ ty24 ?_
 refine zzb (sq9 (zza 19 (zI k) (zzg 20 161 [.int .i64 k] ?_)))
 intro w23 u23 e23 d23
 have k28 := k_eUnit (k := k) d23 xq
 with_reducible refine zPm k28 ?_
 rintro _ u26 g27 ⟨i24, rfl, h25⟩
 refine zza 21 (.v (i24.v)) (zzj 8 ⟨24, [.bool false, .slice none 0 0]⟩ (zzi ⟨24, i24.cs⟩ ty24 ?_))
 refine zzb (sq9 (zzh 23 (.v (i.v)) ty24 zze (zzh 24 (.v (i24.v)) ty24 zze (zzg 25 162 [i.v, i24.v] ?_))))
 intro w29 u29 e29 d29
 have k34 := k_ratMake d29 (hi.ext (e11.trans (g15.ext.trans (e17.trans (g21.ext.trans (e23.trans (g27.ext.trans e29))))))) (h25.ext e29) (Nt.u2_pos _) xq xq
 with_reducible refine zPm k34 ?_
 rintro _ u32 g33 ⟨r30, rfl, h31⟩
 refine zza 22 (.v (.tuple #[r30.v, .int .i64 0])) (zza 26 (.v (r30.v)) (zza 27 (zI 0) (zzj 9 ⟨26, [.bool false, .slice none 0 0, .slice none 0 0]⟩ (zzi ⟨26, r30.cs⟩ ty26 ?_))))
 refine zza 10 (zI 0) (zzb (sq9 (zzh 29 (.v (i18.v)) ty24 zze (zzh 30 (.v (i24.v)) ty24 zze (zzg 31 162 [i18.v, i24.v] ?_)))))
 intro w35 u35 e35 d35
 have k40 := k_ratMake d35 (h19.ext (e23.trans (g27.ext.trans (e29.trans (g33.ext.trans e35))))) (h25.ext (e29.trans (g33.ext.trans e35))) (Nt.u2_pos _) xq xq
 with_reducible refine zPm k40 ?_
 rintro _ u38 g39 ⟨r36, rfl, h37⟩
 refine zza 28 (.v (.tuple #[r36.v, .int .i64 0])) (zza 32 (.v (r36.v)) (zza 33 (zI 0) (zzj 11 ⟨26, [.bool false, .slice none 0 0, .slice none 0 0]⟩ (zzi ⟨26, r36.cs⟩ ty26 ?_))))
 refine zza 12 (zI 0) (zzc 37 [(6, .adr 6 0), (9, .adr 9 0), (11, .adr 11 0)] [(6, ⟨32, [.bool false, .slice none 0 0, .slice none 0 0, .bool false, .slice none 0 0, .slice none 0 0]⟩), (9, ⟨26, r30.cs⟩), (11, ⟨26, r36.cs⟩)] (sq9 (zzh 34 (.v (r30.v)) ty26 zze (zzh 35 (.v (r36.v)) ty26 zze (zza 36 (.v (.agg #[.bool r30.s, r30.m.v, r30.d.v, .bool r36.s, r36.m.v, r36.d.v])) (zzi ⟨32, r30.cs ++ r36.cs⟩ ty32 ?_))))))
 refine zzb (zzn (ret0 [.agg #[.bool r30.s, .slice r30.m.a r30.m.n r30.m.c, .slice r30.d.a r30.d.n r30.d.c, .bool r36.s, .slice r36.m.a r36.m.n r36.m.c, .slice r36.d.a r36.d.n r36.d.c]] ⟨zzq ty32 zze, trivial⟩ fun u41 e42 => ?_))
 refine ⟨r30, r36, rfl, RatN.more (K := (K + (k / 32 + 2) + 1)) ?_ xq, RatN.more (K := ((max K 2 + 1) + (k / 32 + 2) + 1)) ?_ xq⟩
 ·exact (h31.ext (e35.trans (g39.ext.trans e42)))
 ·exact (h37.ext e42)
theorem k_cos1 {u w : World} {p q k bp bq : Nat} (d : Dat u w) (hbp : u.heap[bp]? = some (.cells [Value.int .i64 (p : Int)].toArray 3 (0, 0))) (hbq : u.heap[bq]? = some (.cells [Value.int .i64 (q : Int)].toArray 3 (0, 0))) (hq0 : 0 < q) (hq : q ≤ 100000) (hp : 2 * p ≤ q) (hp1 : 1 ≤ p) (hk0 : 16 ≤ k) (hk : k ≤ 800) : Calls Tryz.prog 178 #[.int .i64 (k : Int), .pointer (some ⟨bp, 0, none⟩), .pointer (some ⟨bq, 0, none⟩)] w (Post u w fun v u' => ∃ (i j : IL) (a b : Int), v = SP i j ∧ IntN u' i a 42 ∧ IntN u' j b 42 ∧ Nt.CsR p q k a b) := by
 refine zzl (args := [.int .i64 k, .pointer (some ⟨bp, 0, none⟩), .pointer (some ⟨bq, 0, none⟩)]) Tryz.func178 rfl Tryz.ntmps178 (rs := [.cell 4 160]) Tryz.results178 (le_b rfl) (le_b rfl) d ?_
 refine sq9 (zzj 4 ⟨160, [.bool false, .slice none 0 0, .bool false, .slice none 0 0]⟩ (zzb (sq9 (zyk 5 (.int .i64 p) (var_cell1 hbp) ty3 (zyk 6 (.int .i64 q) (var_cell1 hbq) ty3 (zza 7 (zI k) (zzg 8 179 [.int .i64 p, .int .i64 q, .int .i64 k] ?_)))))))
 intro w11 u11 e11 d11
 have k15 := k_cosineOf d11 (p := p) (q := q) (k := k) hq0 hq hp hp1 xq xq
 with_reducible refine zPm k15 ?_
 rintro _ u13 g14 ⟨si12, sj12, sa12, sb12, rfl, ha12, hb12, hR12⟩
 refine zzi ⟨160, si12.cs ++ sj12.cs⟩ ty160 ?_
 refine zzb (zzn (ret0 [.agg #[.bool si12.s, .slice si12.m.a si12.m.n si12.m.c, .bool sj12.s, .slice sj12.m.a sj12.m.n sj12.m.c]] ⟨zzq ty160 zze, trivial⟩ fun u16 e17 => ?_))
 exact ⟨si12, sj12, _, _, rfl, (ha12.ext e17), (hb12.ext e17), hR12⟩
set_option maxHeartbeats 2000000 in
theorem k_irrCos {u w : World} {p q bp bq : Nat} {k g : Nat} (d : Dat u w) (hbp : u.heap[bp]? = some (.cells [Value.int .i64 (p : Int)].toArray 3 (0, 0))) (hbq : u.heap[bq]? = some (.cells [Value.int .i64 (q : Int)].toArray 3 (0, 0))) (hq0 : 0 < q) (hq : q ≤ 100000) (hp : 2 * p ≤ q) (hp1 : 1 ≤ p) (hg : Nt.Gap (Nt.coN p q) k g) (hg3 : g ≤ 300) (hk : k ≤ 256) : Calls Tryz.prog 101 #[.func (.func 178) #[] #[.pointer (some ⟨bp, 0, none⟩), .pointer (some ⟨bq, 0, none⟩)], .int .i64 (k : Int)] w (Post u w fun v u' => ∃ r1 r2 : RL, v = IV r1 r2 ∧ RatN u' r1 (Nt.gr k (Nt.flo (Nt.coN p q) k)) 70 ∧ RatN u' r2 (Nt.gr k (Nt.flo (Nt.coN p q) k + 1)) 70) := by
 refine zzl (args := [.func (.func 178) #[] #[.pointer (some ⟨bp, 0, none⟩), .pointer (some ⟨bq, 0, none⟩)], .int .i64 k]) Tryz.func101 rfl Tryz.ntmps101 (rs := [.cell 4 32]) Tryz.results101 (le_b rfl) (le_b rfl) d ?_
 refine sq9 (zzj 4 ⟨32, [.bool false, .slice none 0 0, .slice none 0 0, .bool false, .slice none 0 0, .slice none 0 0]⟩ (zzb (sw_scope (I := fun m11 S' u' => ∃ (wk : Nat), (m11 = 1000 - wk) ∧ (k + 32 ≤ wk) ∧ (wk ≤ 674 ∨ wk = k + 32) ∧ (S' = St.of 49 [(0, .v (.func (.func 178) #[] #[.pointer (some ⟨bp, 0, none⟩), .pointer (some ⟨bq, 0, none⟩)])), (1, zI k), (4, .adr 4 0), (5, zI wk)] [(4, ⟨32, [.bool false, .slice none 0 0, .slice none 0 0, .bool false, .slice none 0 0, .slice none 0 0]⟩)]) ∧ (Ext u u')) (fun m S u1 u2 e h => by obtain ⟨wk, hm, p0, p1, hS, hE⟩ := h; exact ⟨wk, hm, p0, p1, hS, hE.trans e⟩) xj ?_ ?_)))
 ·skip
  refine zzf (zza 14 (zI k) (zyp 15 (x := zI (IntKind.i64.wrap ((k : Int) + 32))) (zI (k + 32 : Nat)) (eqI xz) (zza 5 (zI (k + 32 : Nat)) (zzw ?_))))
  exact mpi_into (T := St.of 49 [(0, .v (.func (.func 178) #[] #[.pointer (some ⟨bp, 0, none⟩), .pointer (some ⟨bq, 0, none⟩)])), (1, .v (.int .i64 (k : Int))), (4, .adr 4 0), (5, .v (.int .i64 ((k + 32 : Nat) : Int)))] [(4, ⟨32, [.bool false, .slice none 0 0, .slice none 0 0, .bool false, .slice none 0 0, .slice none 0 0]⟩)]) yw ⟨k + 32, rfl, by omega, .inr rfl, rfl, (Ext.refl _)⟩
 ·skip
  rintro m11 _ u11 ⟨wk, hm11, hw0, hw1, rfl, e11⟩
  refine sq9 (zza 16 (.v (.func (.func 178) #[] #[.pointer (some ⟨bp, 0, none⟩), .pointer (some ⟨bq, 0, none⟩)])) (zza 17 (zI wk) (zzg 18 178 [.int .i64 wk, .pointer (some ⟨bp, 0, none⟩), .pointer (some ⟨bq, 0, none⟩)] ?_)))
  intro w12 u12 e12 d12
  have k16 := k_cos1 d12 (k := wk) ((e11.trans e12).cells hbp) ((e11.trans e12).cells hbq) hq0 hq hp hp1 xq xq
  with_reducible refine zPm k16 ?_
  rintro _ u14 g15 ⟨si13, sj13, sa13, sb13, rfl, ha13, hb13, hR13⟩
  refine zzj 6 ⟨160, [.bool false, .slice none 0 0, .bool false, .slice none 0 0]⟩ (zzi ⟨160, si13.cs ++ sj13.cs⟩ ty160 ?_)
  refine zzb (sq9 (zza 19 (zI wk) (zza 20 (zI k) (zyp 21 (x := zI (IntKind.i64.wrap ((wk : Int) - (k : Int)))) (zI (wk - k : Nat)) (eqI xz) (zzg 22 161 [.int .i64 (wk - k : Nat)] ?_)))))
  intro w17 u17 e17 d17
  have k22 := k_eUnit (k := wk - k) d17 xq
  with_reducible refine zPm k22 ?_
  rintro _ u20 g21 ⟨i18, rfl, h19⟩
  refine zza 23 (.v (i18.v)) (zzj 7 ⟨24, [.bool false, .slice none 0 0]⟩ (zzi ⟨24, i18.cs⟩ ty24 ?_))
  refine zzb (sq9 (zza 25 (.adr 6 0) (zzh 26 (.v (si13.v)) ty24 zze (zzh 27 (.v (i18.v)) ty24 zze (zzg 28 180 [si13.v, i18.v] ?_)))))
  intro w23 u23 e23 d23
  have k30 := k_intDivI d23 (ha13.ext (e17.trans (g21.ext.trans e23))).raw (h19.ext e23) (Nt.u2_pos _) xq xq
  with_reducible refine zPm k30 ?_
  rintro _ u28 g29 ⟨i24, i26, rfl, h25, h27⟩
  refine zza 24 (.v (.tuple #[i24.v, i26.v, .int .i64 0])) (zza 29 (.v (i24.v)) (zza 30 (.v (i26.v)) (zza 31 (zI 0) (zzj 8 ⟨24, [.bool false, .slice none 0 0]⟩ (zzj 9 ⟨24, [.bool false, .slice none 0 0]⟩ (zzi ⟨24, i24.cs⟩ ty24 ?_))))))
  refine zzi ⟨24, i26.cs⟩ ty24 ?_
  refine zza 10 (zI 0) (zzb (sq9 (zza 33 (.adr 6 2) (zzh 34 (.v (sj13.v)) ty24 zze (zzh 35 (.v (i18.v)) ty24 zze (zzg 36 180 [sj13.v, i18.v] ?_))))))
  intro w31 u31 e31 d31
  have k38 := k_intDivI d31 (hb13.ext (e17.trans (g21.ext.trans (e23.trans (g29.ext.trans e31))))).raw (h19.ext (e23.trans (g29.ext.trans e31))) (Nt.u2_pos _) xq xq
  with_reducible refine zPm k38 ?_
  rintro _ u36 g37 ⟨i32, i34, rfl, h33, h35⟩
  refine zza 32 (.v (.tuple #[i32.v, i34.v, .int .i64 0])) (zza 37 (.v (i32.v)) (zza 38 (.v (i34.v)) (zza 39 (zI 0) (zzj 11 ⟨24, [.bool false, .slice none 0 0]⟩ (zzj 12 ⟨24, [.bool false, .slice none 0 0]⟩ (zzi ⟨24, i32.cs⟩ ty24 ?_))))))
  refine zzi ⟨24, i34.cs⟩ ty24 ?_
  refine zza 13 (zI 0) (zzc 49 [(0, .v (.func (.func 178) #[] #[.pointer (some ⟨bp, 0, none⟩), .pointer (some ⟨bq, 0, none⟩)])), (1, zI k), (4, .adr 4 0), (5, zI wk), (8, .adr 8 0), (11, .adr 11 0)] [(4, ⟨32, [.bool false, .slice none 0 0, .slice none 0 0, .bool false, .slice none 0 0, .slice none 0 0]⟩), (8, ⟨24, i24.cs⟩), (11, ⟨24, i32.cs⟩)] (zzd (sq9 (zzh 40 (.v (i24.v)) ty24 zze (zzh 41 (.v (i32.v)) ty24 zze (zzg 42 181 [i24.v, i32.v] ?_))))))
  intro w39 u39 e39 d39
  have k42 := k_intCompare d39 (h25.ext (e31.trans (g37.ext.trans e39))).raw (h33.ext e39).raw
  with_reducible refine zPm k42 ?_
  rintro _ u40 g41 rfl
  refine zza 43 (zB ((Nt.cmpS (sa13 / (Nt.u2 (wk - k))) (sb13 / (Nt.u2 (wk - k)))) != 0)) (zzb (zzt (b := (Nt.cmpS (sa13 / (Nt.u2 (wk - k))) (sb13 / (Nt.u2 (wk - k)))) != 0) xj (fun hb43 => ?_) (fun hb43 => ?_)))
  ·replace hb43 : ((Nt.cmpS (sa13 / (Nt.u2 (wk - k))) (sb13 / (Nt.u2 (wk - k)))) != 0) = true := hb43
   refine sq9 (zza 44 (zI wk) (zyp 45 (x := zI (IntKind.i64.wrap ((wk : Int) * 2))) (zI (wk * 2 : Nat)) (eqI xz) (zza 5 (zI (wk * 2 : Nat)) (zzb ?_))))
   have hny := Nt.not_yet hg hR13.1 ((Nt.csR_bd hR13 hq0 hp xq).2.2.2.2.2) hb43
   refine sw_goto (mpg_seq (mpg_jump (m := _) (T := St.of 49 [(0, .v (.func (.func 178) #[] #[.pointer (some ⟨bp, 0, none⟩), .pointer (some ⟨bq, 0, none⟩)])), (1, zI k), (4, .adr 4 0), (5, zI (wk * 2 : Nat))] [(4, ⟨32, [.bool false, .slice none 0 0, .slice none 0 0, .bool false, .slice none 0 0, .slice none 0 0]⟩)]) ?_ yw ⟨wk * 2, rfl, by omega, by omega, rfl, (e11.trans (e12.trans (g15.ext.trans (e17.trans (g21.ext.trans (e23.trans (g29.ext.trans (e31.trans (g37.ext.trans (e39.trans g41.ext))))))))))⟩))
   omega
  ·replace hb43 : ((Nt.cmpS (sa13 / (Nt.u2 (wk - k))) (sb13 / (Nt.u2 (wk - k)))) != 0) = false := hb43
   refine zzr (zzo ?_)
   refine sq9 (zzh 46 (.v (i24.v)) ty24 zze (zza 47 (zI k) (zzg 48 84 [i24.v, .bool false, .int .i64 k] ?_)))
   intro w44 u44 e44 d44
   have k51 := k_betweenN (k := k) d44 (h25.ext (e31.trans (g37.ext.trans (e39.trans (g41.ext.trans e44))))) xq xq xq
   with_reducible refine zPm k51 ?_
   rintro _ u49 g50 ⟨r45, r47, rfl, h46, h48⟩
   refine zzi ⟨32, r45.cs ++ r47.cs⟩ ty32 ?_
   refine zzb (zzn (mpr_jump (ret0 [.agg #[.bool r45.s, .slice r45.m.a r45.m.n r45.m.c, .slice r45.d.a r45.d.n r45.d.c, .bool r47.s, .slice r47.m.a r47.m.n r47.m.c, .slice r47.d.a r47.d.n r47.d.c]] ⟨zzq ty32 zze, trivial⟩ fun u52 e53 => ?_)))
   have hfl := Nt.flo_of hR13.1 xq hb43
   refine ⟨r45, r47, rfl, RatN.more (K := ((42 + 1) + 20)) ?_ xq, RatN.more (K := ((42 + 1) + 20)) ?_ xq⟩
   ·rw [← hfl]; exact (h46.ext e53)
   ·rw [← hfl]; exact (h48.ext e53)
end Go.Proofs.YtbolmkfphieogaaGreat

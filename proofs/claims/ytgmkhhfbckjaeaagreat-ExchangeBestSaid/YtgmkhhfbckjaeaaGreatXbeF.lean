/- Parts of the proof: contracts of functions, each walked once, and plain laws. -/
import Derived.Test.YtgmkhhfbckjaeaaGreatXbeE
set_option linter.unusedVariables false
namespace Go.Proofs.YtgmkhhfbckjaeaaGreat
open Go.RowKit
namespace Nt
theorem tm2 (p : Nat) : (Int.tmod (p : Int) 2 == 1) = decide (p % 2 = 1) := by
 rw [show Int.tmod (p : Int) 2 = ((p % 2 : Nat) : Int) from (Int.ofNat_tmod p 2).symm]
 by_cases h : p % 2 = 1
 ·rw [h]; rfl
 rw [decide_eq_false h, beq_eq_false_iff_ne]; omega
theorem inl_app (l m : List Nat) : inl (l ++ m) = inl l ++ inl m := List.map_append
theorem inl_take (l : List Nat) (n : Nat) : inl (l.take n) = (inl l).take n := List.map_take
theorem inl_drop (l : List Nat) (n : Nat) : inl (l.drop n) = (inl l).drop n := List.map_drop
theorem exL_a {l : List Nat} {a pl : Nat} {like : Bool} (h0 : 0 < l.length) (h : ((pl : Int) == 0) = true) (hl : like = true) : (inl l).set 0 (a : Int) = inl (exL l a like pl) := by
 have h1 : pl = 0 := by simpa using h
 unfold exL
 rw [if_pos h1, hl, if_pos rfl]
 match l, h0 with
 | x :: l, _ => rfl
theorem exL_b {l : List Nat} {a pl k : Nat} {like : Bool} (h0 : l.length = k) (hk : 1 ≤ k) (h : ((pl : Int) == 0) = true) (hl : like = false) : ((inl l).take 1 ++ ((inl l).drop 0).take (k - 1) ++ (inl l).drop (1 + (k - 1))).set 0 (a : Int) = inl (exL l a like pl) := by
 have h1 : pl = 0 := by simpa using h
 unfold exL
 rw [if_pos h1, hl, if_neg yq, cp_left (by rw [inl_len]; omega), ← inl_take, h0]; rfl
theorem exL_c {l : List Nat} {a pl : Nat} {like : Bool} (h : ((pl : Int) == 0) = false) (hl : ((Int.tmod (pl : Int) 2 == 1) == like) = true) : (inl l).set (pl - 1) (a : Int) = inl (exL l a like pl) := by
 have h1 : pl ≠ 0 := by simpa using h
 unfold exL
 rw [tm2, beq_iff_eq] at hl
 rw [if_neg h1, if_pos hl, inl_set]
theorem exL_d {l : List Nat} {a pl : Nat} {like : Bool} (h : ((pl : Int) == 0) = false) (hl : ((Int.tmod (pl : Int) 2 == 1) == like) = false) (h2 : pl < l.length) : (inl l).set pl (a : Int) = inl (exL l a like pl) := by
 have h1 : pl ≠ 0 := by simpa using h
 unfold exL
 rw [tm2, beq_eq_false_iff_ne] at hl
 rw [if_neg h1, if_neg hl, if_pos h2, inl_set]
theorem exL_e {l : List Nat} {a pl k : Nat} {like : Bool} (h0 : l.length = k) (hk : 1 ≤ k) (h : ((pl : Int) == 0) = false) (hl : ((Int.tmod (pl : Int) 2 == 1) == like) = false) (h2 : ¬ pl < l.length) : ((inl l).take 0 ++ ((inl l).drop 1).take (k - 1) ++ (inl l).drop (0 + (k - 1))).set (k - 1) (a : Int) = inl (exL l a like pl) := by
 have h1 : pl ≠ 0 := by simpa using h
 unfold exL
 rw [tm2, beq_eq_false_iff_ne] at hl
 rw [if_neg h1, if_neg hl, if_neg h2, cp_right (by rw [inl_len]; omega), inl_app, inl_drop]; rfl
theorem cp_len {l : List Int} {i j m : Nat} (hi : i + m ≤ l.length) (hj : j + m ≤ l.length) : (l.take j ++ (l.drop i).take m ++ l.drop (j + m)).length = l.length := by
 simp only [List.length_append, List.length_take, List.length_drop]; omega
end Nt
set_option maxHeartbeats 4000000 in
theorem k_exchange {u w v0 : World} {b k a : Nat} {l : List Nat} {like : Bool} (d : Dat u w) (hv : Ext v0 u) (hy : MutQ 1 3 v0.heap.size u (⟨some ⟨b, 0, none⟩, k, k⟩ : Sl) (ics (Nt.inl l))) (hl : l.length = k) (hk2 : 2 ≤ k) (hk9 : k ≤ 60) (ha : a ≤ 1000) : Calls Tryz.prog 67 #[.slice (some ⟨b, 0, none⟩) k k, .int .i64 (a : Int), .bool like] w (PostF (mqB (⟨some ⟨b, 0, none⟩, k, k⟩ : Sl) []) u w fun v u' => v = .tuple #[] ∧ ∃ pl, pl ≤ k ∧ (∀ i, i < pl → (Nt.inl l).getD i 0 < (a : Int)) ∧ (pl < k → (a : Int) ≤ (Nt.inl l).getD pl 0) ∧ MutQ 1 3 v0.heap.size u' (⟨some ⟨b, 0, none⟩, k, k⟩ : Sl) (ics (Nt.inl (Nt.exL l a like pl)))) := by
 have hlI : (Nt.inl l).length = k := (Nt.inl_len l).trans hl
 refine calls_symF (F := mqB (⟨some ⟨b, 0, none⟩, k, k⟩ : Sl) []) (args := [.slice (some ⟨b, 0, none⟩) k k, .int .i64 (a : Int), .bool like]) Tryz.func67 rfl Tryz.ntmps67 (rs := []) Tryz.results67 (le_b rfl) (le_b rfl) d ?_
 refine sq9 (zza 8 (.v (.slice (some ⟨b, 0, none⟩) k k)) (zza 9 (zI k) (zza 6 (zI k) (zzb (sq9 (zza 7 (zI 0) (zzb (zzd (sw_joinP (I := fun S' u' => ∃ (pl : Nat), (pl ≤ k) ∧ (∀ i, i < pl → (Nt.inl l).getD i 0 < (a : Int)) ∧ (pl < k → (a : Int) ≤ (Nt.inl l).getD pl 0) ∧ (S' = St.of 73 [(0, .v (.slice (some ⟨b, 0, none⟩) k k)), (1, zI a), (2, zB like), (6, zI k), (7, zI pl)] []) ∧ (MutQ 1 3 v0.heap.size u' (⟨some ⟨b, 0, none⟩, k, k⟩ : Sl) (ics (Nt.inl l)))) ?_ (fun ai => ?_))))))))))
 ·rintro _ a1 ad ⟨pl, hpl, hpb, hpe, rfl, hyJ⟩
  refine zzt (sq9 (zza 33 (zI pl) (zza 34 (zB ((pl : Int) == 0)) ?_)))
  rcases Bool.eq_false_or_eq_true ((pl : Int) == 0) with hs12 | hs12
  ·refine zyq 35 (x := zB ((pl : Int) == 0)) (zB true) (by rw [hs12]) ?_
   have aw : (pl : Int) = 0 := by simpa using hs12
   refine zza 36 (zB like) ?_ (hw := w1 2 true 35)
   refine zza 37 (zB like) (zza 32 (zB like) (zzb (zzu (b := like) xk (fun aa => ?_) (fun aa => ?_))))
   ·replace aa : like = true := aa
    refine zzf (zza 38 (.v (.slice (some ⟨b, 0, none⟩) k k)) (zza 39 (zI a) ?_))
    obtain ⟨b14, aq, a8⟩ := MutQ.elI (j := 0) hyJ (by rw [hlI]; omega)
    refine zya 40 (0 + 0 * 1) (n := k) (off := 0) (sz := 1) (i := 0) xq aq xq xq sl22 ?_
    have hq15 := hyJ
    refine sy_storeQ (v := .int .i64 a) (off := 0 + 0 * 1) (n := 1) (⟨some ⟨b, 0, none⟩, k, k⟩ : Sl) hq15 (fun a ha => .inr (mqB_x ha)) aq ty3 (by rw [zwi, hlI]; omega) (nu_ics (l := [(a : Int)])) (fun aV aK aD => ?_)
    have aM : MutQ 1 3 v0.heap.size aV (⟨some ⟨b, 0, none⟩, k, k⟩ : Sl) (ics ((Nt.inl l).set 0 (a : Int))) := by rw [← setL_icsQ (by rw [hlI]; omega)]; exact aK
    have eX15r := ExtX.root aD (MutQ.mutL hq15) (hv.trans ad)
    refine zzx ?_
    refine ⟨[], [], trivial, (fun t h => by cases h), fun B u1 e1 _ => ⟨rfl, pl, hpl, hpb, hpe, ?_⟩⟩
    rw [← (Nt.exL_a xq hs12 aa)]
    exact (aM).ext e1
   replace aa : like = false := aa
   refine sq9 (zza 42 (zI pl) (zza 43 (zB ((pl : Int) == 0)) (zza 41 (zB ((pl : Int) == 0)) (zzb (zzu (b := (pl : Int) == 0) xk (fun hb => ?_) (fun hb => ?_))))))
   ·clear hb
    refine zzd (sw_anyX xk 7 rfl ?_)
    refine takeX 0 44 6 (.v (.slice (some ⟨b, 0, none⟩) k k)) #[true, false, false, false, false, false, false] ?_
    refine takeX 2 46 5 (.v (.slice (some ⟨b, 0, none⟩) k k)) #[true, false, true, false, false, false, false] ?_
    refine takeX 3 47 4 (.v (.int .i64 (k : Int))) #[true, false, true, true, false, false, false] ?_
    refine takeXe 4 48 3 (x := .v (.int .i64 (IntKind.i64.wrap ((k : Int) - 1)))) (.v (.int .i64 ((k - 1 : Nat) : Int))) (eqI xz) #[true, false, true, true, true, false, false] ?_
    refine ready2 1 5 #[true, true, true, true, true, false, false] #[true, false, true, true, true, true, false] ?_ ?_
    ·skip
     refine sy_tailD 45 (i := 1) (n := k) (c := k) 1 sl22 rfl xq xq xq ?_
     refine zzx ?_
     refine ready1 5 #[true, true, true, true, true, true, false] ?_
     refine sy_front 49 (i := ((k - 1 : Nat) : Int)) (n := k) (c := k) (k - 1) sl22 rfl xq ?_
     refine zzx ?_
     refine ready1 6 #[true, true, true, true, true, true, true] ?_
     have hq16 := hyJ
     refine sy_copyJ 50 (E := 3) (i := 0) (j := 1) (off := 0 + 1 * 1) (dn := k - 1) (dc := k - 1) (off2 := 0) (sn := k - 1) (sc := k) (m := k - 1) (l := (Nt.inl l)) (⟨some ⟨b, 0, none⟩, k, k⟩ : Sl) hq16 (fun a ha => .inr (mqB_x ha)) rfl xk xk xq xq (by show _ = min _ _; omega) zv zv (fun u16 al aJ => ?_)
     have eX16r := ExtX.root aJ (MutQ.mutL hq16) (hv.trans ad)
     have ah : ((Nt.inl l).take 1 ++ ((Nt.inl l).drop 0).take (k - 1) ++ (Nt.inl l).drop (1 + (k - 1))).length = k := (Nt.cp_len zv zv).trans ((Nt.inl_len l).trans hl)
     refine zzx ?_
     refine doneX ?_
     refine zzb (zzf (zza 51 (.v (.slice (some ⟨b, 0, none⟩) k k)) (zza 52 (zI a) ?_)))
     obtain ⟨b17, au, a5⟩ := MutQ.elI (j := 0) al (by rw [ah]; omega)
     refine zya 53 (0 + 0 * 1) (n := k) (off := 0) (sz := 1) (i := 0) xq au xq xq sl22 ?_
     have hq18 := al
     refine sy_storeQ (v := .int .i64 a) (off := 0 + 0 * 1) (n := 1) (⟨some ⟨b, 0, none⟩, k, k⟩ : Sl) hq18 (fun a ha => .inr (mqB_x ha)) au ty3 (by rw [zwi, ah]; omega) (nu_ics (l := [(a : Int)])) (fun aY aF aP => ?_)
     have aG : MutQ 1 3 v0.heap.size aY (⟨some ⟨b, 0, none⟩, k, k⟩ : Sl) (ics (((Nt.inl l).take 1 ++ ((Nt.inl l).drop 0).take (k - 1) ++ (Nt.inl l).drop (1 + (k - 1))).set 0 (a : Int))) := by rw [← setL_icsQ (by rw [ah]; omega)]; exact aF
     have eX18r := ExtX.root aP (MutQ.mutL hq18) eX16r
     refine zzx ?_
     refine ⟨[], [], trivial, (fun t h => by cases h), fun B u1 e1 _ => ⟨rfl, pl, hpl, hpb, hpe, ?_⟩⟩
     rw [← (Nt.exL_b hl xq hs12 aa)]
     exact (aG).ext e1
    refine sy_front 49 (i := ((k - 1 : Nat) : Int)) (n := k) (c := k) (k - 1) sl22 rfl xq ?_
    refine zzx ?_
    refine ready1 1 #[true, true, true, true, true, true, false] ?_
    refine sy_tailD 45 (i := 1) (n := k) (c := k) 1 sl22 rfl xq xq xq ?_
    refine zzx ?_
    refine ready1 6 #[true, true, true, true, true, true, true] ?_
    have hq19 := hyJ
    refine sy_copyJ 50 (E := 3) (i := 0) (j := 1) (off := 0 + 1 * 1) (dn := k - 1) (dc := k - 1) (off2 := 0) (sn := k - 1) (sc := k) (m := k - 1) (l := (Nt.inl l)) (⟨some ⟨b, 0, none⟩, k, k⟩ : Sl) hq19 (fun a ha => .inr (mqB_x ha)) rfl xk xk xq xq (by show _ = min _ _; omega) zv zv (fun u19 ao aN => ?_)
    have eX19r := ExtX.root aN (MutQ.mutL hq19) (hv.trans ad)
    have ag : ((Nt.inl l).take 1 ++ ((Nt.inl l).drop 0).take (k - 1) ++ (Nt.inl l).drop (1 + (k - 1))).length = k := (Nt.cp_len zv zv).trans ((Nt.inl_len l).trans hl)
    refine zzx ?_
    refine doneX ?_
    refine zzb (zzf (zza 51 (.v (.slice (some ⟨b, 0, none⟩) k k)) (zza 52 (zI a) ?_)))
    obtain ⟨b20, an, aX⟩ := MutQ.elI (j := 0) ao (by rw [ag]; omega)
    refine zya 53 (0 + 0 * 1) (n := k) (off := 0) (sz := 1) (i := 0) xq an xq xq sl22 ?_
    have hq21 := ao
    refine sy_storeQ (v := .int .i64 a) (off := 0 + 0 * 1) (n := 1) (⟨some ⟨b, 0, none⟩, k, k⟩ : Sl) hq21 (fun a ha => .inr (mqB_x ha)) an ty3 (by rw [zwi, ag]; omega) (nu_ics (l := [(a : Int)])) (fun a4 az aT => ?_)
    have aL : MutQ 1 3 v0.heap.size a4 (⟨some ⟨b, 0, none⟩, k, k⟩ : Sl) (ics (((Nt.inl l).take 1 ++ ((Nt.inl l).drop 0).take (k - 1) ++ (Nt.inl l).drop (1 + (k - 1))).set 0 (a : Int))) := by rw [← setL_icsQ (by rw [ag]; omega)]; exact az
    have eX21r := ExtX.root aT (MutQ.mutL hq21) eX19r
    refine zzx ?_
    refine ⟨[], [], trivial, (fun t h => by cases h), fun B u1 e1 _ => ⟨rfl, pl, hpl, hpb, hpe, ?_⟩⟩
    rw [← (Nt.exL_b hl xq hs12 aa)]
    exact (aL).ext e1
   exact absurd hb (by rw [show ((pl : Int) == 0) = true from hs12]; decide)
  refine zyq 35 (x := zB ((pl : Int) == 0)) (zB false) (by rw [hs12]) ?_
  have aw : ¬ ((pl : Int) = 0) := by simpa using hs12
  refine zzn 36 (uw 2 true false 35) (zza 37 (zB false) (zza 32 (zB false) (zzb (zys xk (sq9 (zza 42 (zI pl) (zza 43 (zB ((pl : Int) == 0)) (zza 41 (zB ((pl : Int) == 0)) (zzb (zzu (b := (pl : Int) == 0) xk (fun hb => ?_) (fun hb => ?_)))))))))))
  ·exact absurd hb (by rw [show ((pl : Int) == 0) = false from hs12]; decide)
  clear hb
  refine sq9 (zza 55 (zI pl) (zza 56 (zI (Int.tmod (pl : Int) 2)) (zza 57 (zB ((Int.tmod (pl : Int) 2) == 1)) (zza 58 (zB like) (zza 59 (zB (((Int.tmod (pl : Int) 2) == 1) == like)) (zza 54 (zB (((Int.tmod (pl : Int) 2) == 1) == like)) (zzb (zzu (b := ((Int.tmod (pl : Int) 2) == 1) == like) xk (fun aj => ?_) (fun aj => ?_)))))))))
  ·refine zzf (zza 60 (.v (.slice (some ⟨b, 0, none⟩) k k)) (zza 61 (zI pl) (zyq 62 (x := zI (IntKind.i64.wrap ((pl : Int) - 1))) (zI (pl - 1 : Nat)) (eqI xz) (zza 63 (zI a) ?_))))
   obtain ⟨b23, am, aW⟩ := MutQ.elI (j := (pl - 1)) hyJ (by rw [hlI]; omega)
   refine zya 64 (0 + (pl - 1) * 1) (n := k) (off := 0) (sz := 1) (i := ((pl - 1 : Nat) : Int)) xq am xq xq sl22 ?_
   have hq24 := hyJ
   refine sy_storeQ (v := .int .i64 a) (off := 0 + (pl - 1) * 1) (n := 1) (⟨some ⟨b, 0, none⟩, k, k⟩ : Sl) hq24 (fun a ha => .inr (mqB_x ha)) am ty3 (by rw [zwi, hlI]; omega) (nu_ics (l := [(a : Int)])) (fun a0 ax aC => ?_)
   have aS : MutQ 1 3 v0.heap.size a0 (⟨some ⟨b, 0, none⟩, k, k⟩ : Sl) (ics ((Nt.inl l).set (pl - 1) (a : Int))) := by rw [← setL_icsQ (by rw [hlI]; omega)]; exact ax
   have eX24r := ExtX.root aC (MutQ.mutL hq24) (hv.trans ad)
   refine zzx ?_
   refine ⟨[], [], trivial, (fun t h => by cases h), fun B u1 e1 _ => ⟨rfl, pl, hpl, hpb, hpe, ?_⟩⟩
   rw [← (Nt.exL_c hs12 aj)]
   exact (aS).ext e1
  refine sq9 (zza 66 (zI pl) (zza 67 (zI k) (zza 68 (zB (decide ((pl : Int) < (k : Int)))) (zza 65 (zB (decide ((pl : Int) < (k : Int)))) (zzb (zzu (b := decide ((pl : Int) < (k : Int))) xk (fun ae => ?_) (fun ae => ?_)))))))
  ·have qhb25 := of_decide_eq_true ae
   refine zzf (zza 69 (.v (.slice (some ⟨b, 0, none⟩) k k)) (zza 70 (zI pl) (zza 71 (zI a) ?_)))
   obtain ⟨b26, av, a2⟩ := MutQ.elI (j := pl) hyJ (by rw [hlI]; omega)
   refine zya 72 (0 + pl * 1) (n := k) (off := 0) (sz := 1) (i := (pl : Int)) xq av xq xq sl22 ?_
   have hq27 := hyJ
   refine sy_storeQ (v := .int .i64 a) (off := 0 + pl * 1) (n := 1) (⟨some ⟨b, 0, none⟩, k, k⟩ : Sl) hq27 (fun a ha => .inr (mqB_x ha)) av ty3 (by rw [zwi, hlI]; omega) (nu_ics (l := [(a : Int)])) (fun a6 aE aQ => ?_)
   have ay : MutQ 1 3 v0.heap.size a6 (⟨some ⟨b, 0, none⟩, k, k⟩ : Sl) (ics ((Nt.inl l).set pl (a : Int))) := by rw [← setL_icsQ (by rw [hlI]; omega)]; exact aE
   have eX27r := ExtX.root aQ (MutQ.mutL hq27) (hv.trans ad)
   refine zzx ?_
   refine ⟨[], [], trivial, (fun t h => by cases h), fun B u1 e1 _ => ⟨rfl, pl, hpl, hpb, hpe, ?_⟩⟩
   rw [← (Nt.exL_d hs12 aj (by have h9 := of_decide_eq_true ae; omega))]
   exact (ay).ext e1
  have qhb25 := of_decide_eq_false ae
  refine sq9 (zza 23 (.v (.slice (some ⟨b, 0, none⟩) k k)) (zza 24 (.v (.slice (some ⟨b, 0, none⟩) k k)) (sy_tailD 25 (i := 1) (n := k) (c := k) 1 sl22 rfl xq xq xq ?_)))
  have hq28 := hyJ
  refine sy_copyJ 26 (E := 3) (i := 1) (j := 0) (off := 0) (dn := k) (dc := k) (off2 := 0 + 1 * 1) (sn := k - 1) (sc := k - 1) (m := k - 1) (l := (Nt.inl l)) (⟨some ⟨b, 0, none⟩, k, k⟩ : Sl) hq28 (fun a ha => .inr (mqB_x ha)) rfl xk xk xq xq (by show _ = min _ _; omega) zv zv (fun u28 ap aO => ?_)
  have eX28r := ExtX.root aO (MutQ.mutL hq28) (hv.trans ad)
  have af : ((Nt.inl l).take 0 ++ ((Nt.inl l).drop 1).take (k - 1) ++ (Nt.inl l).drop (0 + (k - 1))).length = k := (Nt.cp_len zv zv).trans ((Nt.inl_len l).trans hl)
  refine zzb (zzf (zza 27 (.v (.slice (some ⟨b, 0, none⟩) k k)) (zza 28 (zI k) (zyq 29 (x := zI (IntKind.i64.wrap ((k : Int) - 1))) (zI (k - 1 : Nat)) (eqI xz) (zza 30 (zI a) ?_)))))
  obtain ⟨b29, ar, a3⟩ := MutQ.elI (j := (k - 1)) ap (by rw [af]; omega)
  refine zya 31 (0 + (k - 1) * 1) (n := k) (off := 0) (sz := 1) (i := ((k - 1 : Nat) : Int)) xq ar xq xq sl22 ?_
  have hq30 := ap
  refine sy_storeQ (v := .int .i64 a) (off := 0 + (k - 1) * 1) (n := 1) (⟨some ⟨b, 0, none⟩, k, k⟩ : Sl) hq30 (fun a ha => .inr (mqB_x ha)) ar ty3 (by rw [zwi, af]; omega) (nu_ics (l := [(a : Int)])) (fun aZ aI aH => ?_)
  have aB : MutQ 1 3 v0.heap.size aZ (⟨some ⟨b, 0, none⟩, k, k⟩ : Sl) (ics (((Nt.inl l).take 0 ++ ((Nt.inl l).drop 1).take (k - 1) ++ (Nt.inl l).drop (0 + (k - 1))).set (k - 1) (a : Int))) := by rw [← setL_icsQ (by rw [af]; omega)]; exact aI
  have eX30r := ExtX.root aH (MutQ.mutL hq30) eX28r
  refine zzx ?_
  refine ⟨[], [], trivial, (fun t h => by cases h), fun B u1 e1 _ => ⟨rfl, pl, hpl, hpb, hpe, ?_⟩⟩
  rw [← (Nt.exL_e hl xq hs12 aj (by have h9 := of_decide_eq_false ae; omega))]
  exact (aB).ext e1
 refine zzt (zyn (I := fun aU S' u' => ∃ (pl : Nat), (aU = k - pl) ∧ (pl ≤ k) ∧ (∀ i, i < pl → (Nt.inl l).getD i 0 < (a : Int)) ∧ (S' = St.of 73 [(0, .v (.slice (some ⟨b, 0, none⟩) k k)), (1, zI a), (2, zB like), (6, zI k), (7, zI pl)] []) ∧ (Ext u u')) (fun m S u1 u2 e h => by obtain ⟨pl, hm, p0, p1, hS, hE⟩ := h; exact ⟨pl, hm, p0, p1, hS, hE.trans e⟩) _ yk ⟨0, rfl, by omega, (fun i hi => absurd hi (Nat.not_lt_zero i)), rfl, (Ext.refl _)⟩ ?_)
 rintro aU _ u31 ⟨pl, a7, hpl, hpb, rfl, ak⟩
 refine zzd (sq9 (zza 10 (zI pl) (zza 11 (zI k) (zza 12 (zB (decide ((pl : Int) < (k : Int)))) ?_))))
 rcases Bool.eq_false_or_eq_true (decide ((pl : Int) < (k : Int))) with hs32 | hs32
 ·refine zyq 13 (x := zB (decide ((pl : Int) < (k : Int)))) (zB true) (by rw [hs32]) ?_
  have qhs32 := of_decide_eq_true hs32
  refine zza 14 (.v (.slice (some ⟨b, 0, none⟩) k k)) ?_ (hw := w1 3 true 13)
  refine zza 15 (zI pl) ?_ (hw := w1 3 true 13)
  obtain ⟨b33, aR, aA⟩ := MutQ.elI (j := pl) (hy.ext ak) (by rw [hlI]; omega)
  refine zya 16 (0 + pl * 1) (n := k) (off := 0) (sz := 1) (i := (pl : Int)) xq aR xq xq sl22 ?_ (hw := w1 3 true 13)
  refine zyl 17 (.int .i64 ((Nt.inl l).getD pl 0)) aA ty3 ?_ (hw := w1 3 true 13)
  refine zza 18 (zI a) ?_ (hw := w1 3 true 13)
  refine zza 19 (zB (decide (((Nt.inl l).getD pl 0) < (a : Int)))) ?_ (hw := w1 3 true 13)
  refine zza 20 (zB (decide (((Nt.inl l).getD pl 0) < (a : Int)))) (zzb (zzu (b := decide (((Nt.inl l).getD pl 0) < (a : Int))) xk (fun ac => ?_) (fun ac => ?_)))
  ·have qhb34 := of_decide_eq_true ac
   refine zzs (zzp ?_)
   refine zzt (zzf (zza 21 (zI pl) (zyq 22 (x := zI (IntKind.i64.wrap ((pl : Int) + 1))) (zI (pl + 1 : Nat)) (eqI xz) (zza 7 (zI (pl + 1 : Nat)) (zzx ?_)))))
   try simp only [decide_eq_true_eq] at hs32
   try simp only [decide_eq_false_iff_not] at hs32
   try simp only [decide_eq_true_eq] at ac
   try simp only [decide_eq_false_iff_not] at ac
   have hqx : (Nt.inl l).getD pl 0 < (a : Int) := by omega
   refine ⟨_, ?_, _, by exact zzv _ _ _, pl + 1, rfl, by omega, (fun i hi => by by_cases e : i = pl; (rw [e]; exact hqx); exact hpb i xq), rfl, ak⟩
   omega
  have qhb34 := of_decide_eq_false ac
  refine zyc (zzp ?_)
  try simp only [decide_eq_true_eq] at hs32
  try simp only [decide_eq_false_iff_not] at hs32
  try simp only [decide_eq_true_eq] at ac
  try simp only [decide_eq_false_iff_not] at ac
  refine sw_weak (T := St.of 73 [(0, .v (.slice (some ⟨b, 0, none⟩) k k)), (1, zI a), (2, zB like), (6, zI k), (7, zI pl)] []) yk ?_
  exact ai _ _ ak ⟨pl, hpl, hpb, (by intro h; omega), rfl, (hy.ext ak)⟩
 refine zyq 13 (x := zB (decide ((pl : Int) < (k : Int)))) (zB false) (by rw [hs32]) ?_
 have qhs32 := of_decide_eq_false hs32
 refine zzn 14 (uw 3 true false 13) (zzn 15 (uw 3 true false 13) (zzn 16 (uw 3 true false 13) (zzn 17 (uw 3 true false 13) (zzn 18 (uw 3 true false 13) (zzn 19 (uw 3 true false 13) (zza 20 (zB false) (zzb (zys xk (zyc (zzp ?_))))))))))
 try simp only [decide_eq_true_eq] at hs32
 try simp only [decide_eq_false_iff_not] at hs32
 refine sw_weak (T := St.of 73 [(0, .v (.slice (some ⟨b, 0, none⟩) k k)), (1, zI a), (2, zB like), (6, zI k), (7, zI pl)] []) yk ?_
 exact ai _ _ ak ⟨pl, hpl, hpb, (by intro h; omega), rfl, (hy.ext ak)⟩
namespace Nt
open Pol
def Bt (q : Rat) (B : Nat) : Prop := ∃ (z : Int) (D : Nat), 0 < D ∧ D ≤ 2 ^ B ∧ z.natAbs ≤ 2 ^ B ∧ q = mkRat z D
section
variable {p q : Rat} {A B : Nat}
theorem Bt.more (h : Bt q A) (k : A ≤ B) : Bt q B := by
 obtain ⟨z, D, h1, h2, h3, h4⟩ := h
 have := Nat.pow_le_pow_right (show 0 < 2 by omega) k
 exact ⟨z, D, h1, Nat.le_trans h2 this, Nat.le_trans h3 this, h4⟩
theorem Bt.rs (h : Bt q A) : Nt.rs q ≤ dg A := by
 obtain ⟨z, D, h1, h2, h3, h4⟩ := h
 rw [h4]
 exact rs_mk (dl_dg h3) (dl_dg h2) (by unfold dg; omega)
theorem Bt.mul (h : Bt p A) (k : Bt q B) : Bt (p * q) (A + B) := by
 obtain ⟨z, D, h1, h2, h3, h4⟩ := h
 obtain ⟨y, E, k1, k2, k3, k4⟩ := k
 refine ⟨z * y, D * E, Nat.mul_pos h1 k1, ?_, ?_, ?_⟩
 ·rw [Nat.pow_add]; exact Nat.mul_le_mul h2 k2
 ·rw [Int.natAbs_mul, Nat.pow_add]; exact Nat.mul_le_mul h3 k3
 rw [h4, k4, Rat.mkRat_mul_mkRat]
theorem Bt.neg (h : Bt q A) : Bt (-q) A := by
 obtain ⟨z, D, h1, h2, h3, h4⟩ := h
 exact ⟨-z, D, h1, h2, by rw [Int.natAbs_neg]; exact h3, by rw [h4, Rat.neg_mkRat]⟩
theorem Bt.add (h : Bt p A) (k : Bt q B) : Bt (p + q) (A + B + 1) := by
 obtain ⟨z, D, h1, h2, h3, h4⟩ := h
 obtain ⟨y, E, k1, k2, k3, k4⟩ := k
 refine ⟨z * E + y * D, D * E, Nat.mul_pos h1 k1, ?_, ?_, ?_⟩
 ·refine Nat.le_trans (Nat.mul_le_mul h2 k2) ?_
  rw [← Nat.pow_add]; exact Nat.pow_le_pow_right xq xq
 ·have e1 : (z * E).natAbs ≤ 2 ^ (A + B) := by rw [Int.natAbs_mul, Nat.pow_add]; exact Nat.mul_le_mul h3 k2
  have e2 : (y * D).natAbs ≤ 2 ^ (A + B) := by rw [Int.natAbs_mul, Nat.pow_add, Nat.mul_comm]; exact Nat.mul_le_mul h2 k3
  rw [Nat.pow_succ]
  omega
 rw [h4, k4, Rat.mkRat_add_mkRat _ _ xq xq]
theorem Bt.sub (h : Bt p A) (k : Bt q B) : Bt (p - q) (A + B + 1) := by rw [Rat.sub_eq_add_neg]; exact h.add k.neg
theorem Bt.zero (A : Nat) : Bt 0 A := ⟨0, 1, by omega, Nat.one_le_two_pow, by simp, by rw [Rat.zero_mkRat]⟩
theorem Bt.inv (h : Bt q A) : Bt q⁻¹ A := by
 obtain ⟨z, D, h1, h2, h3, h4⟩ := h
 by_cases hz : z = 0
 ·rw [h4, hz, Rat.zero_mkRat, Rat.inv_zero]; exact Bt.zero A
 have hD : ((D : Int) : Rat) ≠ 0 := dz h1
 have hzr : (z : Rat) ≠ 0 := fun e => hz (Rat.intCast_inj.1 (show (z : Rat) = ((0 : Int) : Rat) from e))
 refine ⟨z.sign * D, z.natAbs, Int.natAbs_pos.2 hz, h3, ?_, ?_⟩
 ·rw [Int.natAbs_mul, Int.natAbs_sign_of_ne_zero hz, Nat.one_mul]; exact h2
 rw [h4, ← mk_div, ← mk_div]
 rcases Int.lt_or_gt_of_ne hz with c | c
 ·have e1 : (z.natAbs : Int) = -z := by omega
  rw [Int.sign_eq_neg_one_of_neg c, e1, Rat.intCast_mul, Rat.intCast_neg, Rat.intCast_neg]
  rw [Rat.div_def, Rat.div_def, Rat.inv_mul_rev, Rat.inv_inv]
  have : (-(z : Rat))⁻¹ = -((z : Rat)⁻¹) := by
   have h1 : (-(z : Rat)) * (-((z : Rat)⁻¹)) = 1 := by have := Rat.mul_inv_cancel _ hzr; grind
   have h2 : (-(z : Rat)) ≠ 0 := by grind
   have h3 := Rat.mul_inv_cancel _ h2
   grind
  rw [this, show ((1 : Int) : Rat) = 1 from rfl]; grind
 have e1 : (z.natAbs : Int) = z := by omega
 rw [Int.sign_eq_one_of_pos c, e1, Int.one_mul, Rat.div_def, Rat.div_def, Rat.inv_mul_rev, Rat.inv_inv]
theorem Bt.div (h : Bt p A) (k : Bt q B) : Bt (p / q) (A + B) := by rw [Rat.div_def]; exact h.mul k.inv
theorem Bt.ofWh {D : Nat} (h0 : 0 < D) (h : Wh (q * ((D : Int) : Rat)) A) (hD : D ≤ 2 ^ A) : Bt q A := by
 obtain ⟨z, hz, hb⟩ := h
 exact ⟨z, D, h0, hD, hb, by rw [← mk_div, ← hz]; have := dz h0; grind⟩
end
def bZ : Nat → Nat
 | 0 => 14
 | o + 1 => 2 * bZ o + 7
theorem bZ_le : ∀ o n, o ≤ n → bZ o ≤ bZ n := fun o n h => by
 induction n with
 | zero => rw [show o = 0 by omega]; exact Nat.le_refl _
 | succ n ih =>
  by_cases e : o = n + 1
  ·rw [e]; exact Nat.le_refl _
  have := ih xq
  show _ ≤ 2 * bZ n + 7
  omega
theorem dd_Bt {x y : Nat → Rat} {n : Nat} (hx : ∀ i j, i ≤ n → j ≤ n → Bt (x i - x j) 6) (hy : ∀ i, i ≤ n → Bt (y i) 14) : ∀ o a, a + o ≤ n → Bt (dd x y o a) (bZ o)
 | 0, a, h => hy a h
 | o + 1, a, h => by
  have h1 := dd_Bt hx hy o (a + 1) xq
  have h2 := dd_Bt hx hy o a xq
  exact ((h1.sub h2).div (hx (a + o + 1) a xq xq)).more (by show _ ≤ 2 * bZ o + 7; omega)
theorem bt_common {c : Nat → Rat} {B : Nat} : ∀ n, (∀ i, i < n → Bt (c i) B) → ∃ D : Nat, 0 < D ∧ D ≤ 2 ^ (B * n) ∧ ∀ i, i < n → Wh (c i * ((D : Int) : Rat)) (B * n)
 | 0, _ => ⟨1, by omega, Nat.one_le_two_pow, fun i hi => absurd hi (Nat.not_lt_zero i)⟩
 | n + 1, h => by
  obtain ⟨D, h1, h2, h3⟩ := bt_common n (fun i hi => h i xq)
  obtain ⟨z, E, k1, k2, k3, k4⟩ := h n xq
  have e : B * (n + 1) = B * n + B := by rw [Nat.mul_succ]
  refine ⟨D * E, Nat.mul_pos h1 k1, by rw [e, Nat.pow_add]; exact Nat.mul_le_mul h2 k2, fun i hi => ?_⟩
  by_cases c : i = n
  ·subst c
   refine ⟨z * D, ?_, ?_⟩
   ·have := dz k1
    rw [k4, ← mk_div, Int.natCast_mul, Rat.intCast_mul, Rat.intCast_mul, Rat.div_def]
    have h9 := Rat.mul_inv_cancel _ this
    grind
   rw [Int.natAbs_mul, e, Nat.pow_add, Nat.mul_comm]; exact Nat.mul_le_mul h2 k3
  obtain ⟨y, g1, g2⟩ := h3 i xq
  refine ⟨y * E, ?_, ?_⟩
  ·rw [Int.natCast_mul, Rat.intCast_mul, Rat.intCast_mul, ← g1]; grind
  rw [Int.natAbs_mul, e, Nat.pow_add]; exact Nat.mul_le_mul g2 k2
theorem mul_lin_co (p : List Rat) (b : Rat) (k : Nat) : co (mulQ p [b, ((1 : Int) : Rat)]) k = b * co p k + sh (co p) k := by
 rw [mulQ_consR]
 congr 1
 have h : ∀ k, co (mulQ p [((1 : Int) : Rat)]) k = co p k := fun k => by
  rw [mulQ_consR]
  have h0 : ∀ k, co (mulQ p []) k = 0 := fun k => by rw [mulQ_comm, mulQ_nil] <;> exact co_nil k
  have : sh (co (mulQ p [])) k = 0 := by unfold sh; split <;> first | rfl | exact h0 _
  rw [this, show ((1 : Int) : Rat) = 1 from rfl]; grind
 unfold sh
 split
 ·rfl
 exact h _
theorem nwL_Wh {x c : Nat → Rat} {n D M : Nat} (hx : ∀ i, i < n → ∃ a : Int, x i * 12 = (a : Rat) ∧ a.natAbs ≤ 36) (hc : ∀ i, i < n → Wh (c i * ((D : Int) : Rat)) M) : ∀ j, j ≤ n → ∀ i, Wh (co (nwL x c n j) i * (((D * 12 ^ j : Nat) : Int) : Rat)) (M + 8 * j)
 | 0, _ => fun i => by
  show Wh (co [] i * _) _
  rw [co_nil, Rat.zero_mul]; exact Wh.zero _
 | j + 1, hj => fun i => by
  have ih := nwL_Wh hx hc j xq
  obtain ⟨a, ha, hb⟩ := hx (n - (j + 1)) xq
  have hcj := hc (n - (j + 1)) xq
  show Wh (co (trimQ (addQ (trimQ (mulQ (nwL x c n j) [-x (n - (j + 1)), ((1 : Int) : Rat)])) [c (n - (j + 1))])) i * _) _
  rw [trim_co, addQ_co, trim_co, mul_lin_co]
  have e : (((D * 12 ^ (j + 1) : Nat) : Int) : Rat) = (((D * 12 ^ j : Nat) : Int) : Rat) * 12 := by
   rw [Nat.pow_succ, ← Nat.mul_assoc, Int.natCast_mul (D * 12 ^ j), Rat.intCast_mul]; rfl
  have w1 : Wh (-x (n - (j + 1)) * co (nwL x c n j) i * (((D * 12 ^ (j + 1) : Nat) : Int) : Rat)) (M + 8 * j + 6) := by
   have : Wh (((-a : Int) : Rat) * (co (nwL x c n j) i * (((D * 12 ^ j : Nat) : Int) : Rat))) (6 + (M + 8 * j)) := Wh.mul ⟨-a, rfl, by rw [Int.natAbs_neg]; exact Nat.le_trans hb yq⟩ (ih i)
   rw [Rat.intCast_neg, ← ha] at this
   rw [e]
   have e2 : -x (n - (j + 1)) * co (nwL x c n j) i * ((((D * 12 ^ j : Nat) : Int) : Rat) * 12) = -(x (n - (j + 1)) * 12) * (co (nwL x c n j) i * (((D * 12 ^ j : Nat) : Int) : Rat)) := by grind
   rw [e2]; exact this.more xq
  have w2 : Wh (sh (co (nwL x c n j)) i * (((D * 12 ^ (j + 1) : Nat) : Int) : Rat)) (M + 8 * j + 6) := by
   unfold sh
   split
   ·rw [Rat.zero_mul]; exact Wh.zero _
   have : Wh (((12 : Int) : Rat) * (co (nwL x c n j) (i - 1) * (((D * 12 ^ j : Nat) : Int) : Rat))) (6 + (M + 8 * j)) := Wh.mul ⟨12, rfl, by decide⟩ (ih (i - 1))
   rw [e]
   have e2 : co (nwL x c n j) (i - 1) * ((((D * 12 ^ j : Nat) : Int) : Rat) * 12) = ((12 : Int) : Rat) * (co (nwL x c n j) (i - 1) * (((D * 12 ^ j : Nat) : Int) : Rat)) := by rw [show ((12 : Int) : Rat) = 12 from rfl]; grind
   rw [e2]; exact this.more xq
  have w3 : Wh (co [c (n - (j + 1))] i * (((D * 12 ^ (j + 1) : Nat) : Int) : Rat)) (M + 8 * j + 7) := by
   match i with
   | 0 =>
    show Wh (c (n - (j + 1)) * _) _
    have h12 : (12 : Nat) ^ (j + 1) ≤ 2 ^ (4 * (j + 1)) := by rw [Nat.pow_mul]; exact Nat.pow_le_pow_left xq _
    have : Wh ((c (n - (j + 1)) * ((D : Int) : Rat)) * (((12 ^ (j + 1) : Nat) : Int) : Rat)) (M + 4 * (j + 1)) := Wh.mul hcj ⟨((12 ^ (j + 1) : Nat) : Int), rfl, by rw [Int.natAbs_natCast]; exact h12⟩
    rw [Int.natCast_mul D, Rat.intCast_mul, ← Rat.mul_assoc]
    exact this.more xq
   | k + 1 =>
    show Wh (co [] k * _) _
    rw [co_nil, Rat.zero_mul]; exact Wh.zero _
  rw [Rat.add_mul, Rat.add_mul]
  exact ((w1.add w2).add w3).more xq
def xs (V : List Rat) (l : List Nat) (i : Nat) : Rat := gX V (l.getD i 0)
def ys (V : List Rat) (l : List Nat) (i : Nat) : Rat := gY V (l.getD i 0)
def ws (V : List Rat) (l : List Nat) (i : Nat) : Rat := gW V (l.getD i 0)
def sgw (V : List Rat) (l : List Nat) (i : Nat) : Rat := sg1 i / ws V l i
def eL (V : List Rat) (l : List Nat) : Rat := rE (gX V) (gW V) (gY V) l
def cL (V : List Rat) (l : List Nat) (i : Nat) : Rat := dT (xs V l) (ys V l) (l.length - 1) i - eL V l * dT (xs V l) (sgw V l) (l.length - 1) i
def pL (V : List Rat) (l : List Nat) : List Rat := nwL (xs V l) (cL V l) (l.length - 1) (l.length - 1)
section
variable {V : List Rat} {N n : Nat} {l : List Nat}
theorem GrOK.xB (h : GrOK V N) {a b : Nat} (ha : a < N) (hb : b < N) : Bt (gX V a - gX V b) 6 := by
 obtain ⟨z, e, h1, h2⟩ := h.x a ha
 obtain ⟨y, f, k1, k2⟩ := h.x b hb
 refine Bt.ofWh (D := 12) xq ⟨z - y, ?_, ?_⟩ yq
 ·rw [Rat.intCast_sub, ← e, ← f, show (((12 : Nat) : Int) : Rat) = 12 from rfl]; grind
 show _ ≤ 64; omega
theorem GrOK.yB (h : GrOK V N) {a : Nat} (ha : a < N) : Bt (gY V a) 14 := Bt.ofWh xq (h.y a ha) yq
theorem GrOK.wne (h : GrOK V N) {a : Nat} (ha : a < N) : gW V a ≠ 0 := by have := h.gr.pos a ha; grind
theorem GrOK.wB (h : GrOK V N) {a : Nat} (ha : a < N) (i : Nat) : Bt (sg1 i / gW V a) 14 := by
 obtain ⟨p, q, e, h1, h2, h3, h4⟩ := h.w a ha
 have hw : Bt (gW V a) 3 := by
  refine ⟨(p : Int), q, by omega, by show _ ≤ 8; omega, by show _ ≤ 8; omega, ?_⟩
  rw [← mk_div, ← show ((p : Nat) : Rat) = ((p : Int) : Rat) from rfl, ← e]
  have : ((q : Int) : Rat) ≠ 0 := dz xq
  have e2 : ((q : Nat) : Rat) = ((q : Int) : Rat) := rfl
  rw [e2]; grind
 have hs : Bt (sg1 i) 3 := by
  unfold sg1
  split
  ·exact ⟨1, 1, by omega, by decide, by decide, rfl⟩
  exact ⟨-1, 1, by omega, by decide, by decide, by decide +kernel⟩
 exact (hs.div hw).more xq
theorem Rf.n11 (h : Rf N l n) (hN : N ≤ 12) : n ≤ 11 := by
 have : ∀ i, i ≤ n → i ≤ l.getD i 0 := fun i => by
  induction i with
  | zero => intro _; omega
  | succ i ih => intro hi; have := ih xq; have := h.asc i (i + 1) xq hi; omega
 have := this n (Nat.le_refl _); have := h.lt n (Nat.le_refl _); omega
theorem eL_n (h : Rf N l n) : eL V l = lvE (xs V l) (ws V l) (ys V l) n := by
 unfold eL rE; rw [h.len, Nat.add_sub_cancel]; rfl
theorem lvl_c (g : GrOK V N) (h : Rf N l n) {i : Nat} (hi : i < n) : Bt (cL V l i) 172005 := by
 have hn := h.n11 g.n12
 have hb : bZ n ≤ 43001 := Nat.le_trans (bZ_le n 11 hn) yq
 have hx : ∀ i j, i ≤ n → j ≤ n → Bt (xs V l i - xs V l j) 6 := fun i j hi hj => g.xB (h.lt i hi) (h.lt j hj)
 have hy : ∀ i, i ≤ n → Bt (ys V l i) 14 := fun i hi => g.yB (h.lt i hi)
 have hs : ∀ i, i ≤ n → Bt (sgw V l i) 14 := fun i hi => g.wB (h.lt i hi) i
 have d1 := dd_Bt hx hy i 0 xq
 have d2 := dd_Bt hx hs i 0 xq
 have d3 := dd_Bt hx hy n 0 xq
 have d4 := dd_Bt hx hs n 0 xq
 have hbi := bZ_le i n xq
 have e : eL V l = dd (xs V l) (ys V l) n 0 / dd (xs V l) (sgw V l) n 0 := by rw [eL_n h]; rfl
 unfold cL
 rw [h.len, Nat.add_sub_cancel, dT_end xq, dT_end xq, e]
 exact (d1.sub ((d3.div d4).mul d2)).more xq
theorem eL_B (g : GrOK V N) (h : Rf N l n) : Nt.rs (eL V l) ≤ 2700 := by
 have hn := h.n11 g.n12
 have hb : bZ n ≤ 43001 := Nat.le_trans (bZ_le n 11 hn) yq
 have hx : ∀ i j, i ≤ n → j ≤ n → Bt (xs V l i - xs V l j) 6 := fun i j hi hj => g.xB (h.lt i hi) (h.lt j hj)
 have hy : ∀ i, i ≤ n → Bt (ys V l i) 14 := fun i hi => g.yB (h.lt i hi)
 have hs : ∀ i, i ≤ n → Bt (sgw V l i) 14 := fun i hi => g.wB (h.lt i hi) i
 have d3 := dd_Bt hx hy n 0 xq
 have d4 := dd_Bt hx hs n 0 xq
 have e : eL V l = dd (xs V l) (ys V l) n 0 / dd (xs V l) (sgw V l) n 0 := by rw [eL_n h]; rfl
 rw [e]
 exact Nat.le_trans (((d3.div d4).more (show _ ≤ 86002 by omega)).rs) yq
theorem lvl_rs (g : GrOK V N) (h : Rf N l n) {j : Nat} (hj : j ≤ n) (i : Nat) : Nt.rs (co (nwL (xs V l) (cL V l) n j) i) ≤ 60000 := by
 have hn := h.n11 g.n12
 obtain ⟨D, h1, h2, h3⟩ := bt_common n (fun i hi => lvl_c g h hi)
 have hw := nwL_Wh (x := xs V l) (c := cL V l) (n := n) (D := D) (M := 172005 * n) (fun i hi => by
  obtain ⟨z, e, k1, k2⟩ := g.x _ (h.lt i xq)
  exact ⟨z, e, by omega⟩) h3 j hj i
 have h12 : (12 : Nat) ^ j ≤ 2 ^ (4 * j) := by rw [Nat.pow_mul]; exact Nat.pow_le_pow_left xq _
 have hD : D * 12 ^ j ≤ 2 ^ (172005 * n + 8 * j) := by
  refine Nat.le_trans (Nat.mul_le_mul h2 h12) ?_
  rw [← Nat.pow_add]; exact Nat.pow_le_pow_right xq xq
 refine Nat.le_trans (wh_rs (Nat.mul_pos h1 (Nat.pow_pos xq)) hw hD) ?_
 unfold dg; omega
theorem lvl_len (h : Rf N l n) : (pL V l).length ≤ n := by unfold pL; rw [h.len, Nat.add_sub_cancel]; exact nwL_len n
theorem lvl_pL (h : Rf N l n) : pL V l = nwL (xs V l) (cL V l) n n := by unfold pL; rw [h.len, Nat.add_sub_cancel]
theorem lvl_at (g : GrOK V N) (h : Rf N l n) (h1 : 1 ≤ n) {m : Nat} (hm : m ≤ n) : gE (gX V) (gW V) (gY V) (pL V l) (l.getD m 0) = sg1 m * eL V l := by
 have hx := h.ascX g.gr
 have hw : ∀ i, i ≤ n → 0 < ws V l i := fun i hi => g.gr.pos _ (h.lt i hi)
 have := lvl_ok (x := xs V l) (w := ws V l) (y := ys V l) (c := cL V l) hx hw h1 (fun i hi => by
  unfold cL
  rw [h.len, Nat.add_sub_cancel, dT_end xq, dT_end xq, eL_n h]; rfl) hm
 rw [eL_n h, lvl_pL h]
 exact this
def sZ : Nat → Nat
 | 0 => 3
 | o + 1 => 2 * sZ o + 4
theorem sZ_le : ∀ o n, o ≤ n → sZ o ≤ sZ n := fun o n h => by
 induction n with
 | zero => rw [show o = 0 by omega]; exact Nat.le_refl _
 | succ n ih =>
  by_cases e : o = n + 1
  ·rw [e]; exact Nat.le_refl _
  have := ih xq
  show _ ≤ 2 * sZ n + 4
  omega
theorem sZ_bd {o : Nat} (h : o ≤ 11) : sZ o ≤ 14332 := Nat.le_trans (sZ_le o 11 h) yq
def fM (x y : Nat → Rat) (o i j : Nat) : Rat := if i < j then dT x y (o + 1) j else dT x y o j
def kM (o i j : Nat) : Nat := if i < j then sZ (o + 1) else sZ o
theorem GrOK.gap (g : GrOK V N) (h : Rf N l n) {i j : Nat} (hij : i < j) (hj : j ≤ n) : gX V (l.getD j 0) - gX V (l.getD i 0) ≠ 0 := by
 have := h.ascX g.gr i j hij hj
 have h9 : gX V (l.getD i 0) < gX V (l.getD j 0) := this
 grind
theorem GrOK.lvne (g : GrOK V N) (h : Rf N l n) : dT (xs V l) (sgw V l) n n ≠ 0 := by
 rw [dT_end (Nat.le_refl n)]
 exact lvS_ne (h.ascX g.gr) (fun i hi => g.gr.pos _ (h.lt i hi))
theorem lvl_e (h : Rf N l n) : dT (xs V l) (ys V l) n n / dT (xs V l) (sgw V l) n n = eL V l := by
 rw [dT_end (Nat.le_refl n), dT_end (Nat.le_refl n), eL_n h]; rfl
end
end Nt
section
variable {u u' : World} {L : List RL} {r : RL} {q : Rat} {m m' i k : Nat} {f f' : Nat → Rat} {K K' : Nat → Nat}
def RatG (u : World) (L : List RL) (f : Nat → Rat) (K : Nat → Nat) (m : Nat) : Prop := ∀ j, j < m → RatN u (L.getD j rl0) (f j) (K j)
theorem RatG.ext (h : RatG u L f K m) (e : Ext u u') : RatG u' L f K m := fun j hj => (h j hj).ext e
theorem RatG.nil : RatG u L f K 0 := fun j hj => absurd hj (Nat.not_lt_zero j)
theorem RatG.set (h : RatG u L f K m) (hi : i < L.length) (hr : RatN u r q k) (hn : ∀ j, j < m' → (j = i ∧ f' j = q ∧ k ≤ K' j) ∨ (j ≠ i ∧ j < m ∧ f' j = f j ∧ K j ≤ K' j)) : RatG u (L.set i r) f' K' m' := fun j hj => by
 rcases hn j hj with ⟨h1, h2, h3⟩ | ⟨h1, h2, h3, h4⟩
 ·subst h1
  rw [h2, List.getD_eq_getElem?_getD, List.getElem?_set_self hi]; exact hr.more h3
 rw [h3, List.getD_eq_getElem?_getD, List.getElem?_set_ne (Ne.symm h1), ← List.getD_eq_getElem?_getD]; exact (h j h2).more h4
theorem RatG.turn (h : RatG u L f K m) (e : ∀ j, j < m → f' j = f j ∧ K j ≤ K' j) : RatG u L f' K' m := fun j hj => by rw [(e j hj).1]; exact (h j hj).more (e j hj).2
end
def Nt.sgJ (i : Nat) : Int := if i % 2 = 0 then 1 else -1
theorem Nt.sgJ_q (i : Nat) : ((Nt.sgJ i : Int) : Rat) = Nt.sg1 i := by unfold Nt.sgJ Nt.sg1; split <;> rfl
theorem Nt.trim_nwL {x c : Nat → Rat} {n j : Nat} (h : 1 ≤ j) : Nt.trimQ (Nt.nwL x c n j) = Nt.nwL x c n j := by
 match j, h with
 | j + 1, _ => exact Nt.trim_trim _
theorem Nt.tmod2 (i : Nat) : Int.tmod (i : Int) 2 = ((i % 2 : Nat) : Int) := (Int.ofNat_tmod i 2).symm
theorem Nt.mul_len9 {l m : List Rat} (h : l.length ≤ 11) (k : m.length ≤ 2) : (Nt.trimQ (Nt.mulQ l m)).length ≤ 13 := Nat.le_trans (Nt.zxt h k) yq
set_option maxHeartbeats 8000000 in
theorem k_levelled {u w : World} {z : Sl} {l : List Nat} {n : Nat} {x : Sl} {N : Nat} {V : List Rat} (d : Dat u w) (hg : GrN u x N V 1) (ho : Nt.GrOK V N) (hz : SlR .i64 u z.a z.n z.c (Nt.inl l)) (hR : Nt.Rf N l n) (hn1 : 1 ≤ n) : Calls Tryz.prog 61 #[x.v, z.v] w (Post u w fun v u' => ∃ (y : Sl) (r : RL), v = .tuple #[y.v, r.v] ∧ PolN u' y (Nt.pL V l) 60000 ∧ RatN u' r (Nt.eL V l) 2700) := by
 have hxn : x.n = N := hg.len
 have hN12 := ho.n12
 have hN1 := ho.n1
 have hl := hR.len
 have hzn : z.n = n + 1 := by have h9 := hz.1; rw [Nt.inl_len] at h9; omega
 have hn11 := hR.n11 hN12
 refine zzm (args := [x.v, z.v]) Tryz.func61 rfl Tryz.ntmps61 (rs := [.tmp 4, .cell 5 32]) Tryz.results61 (le_b rfl) (le_b rfl) d ?_
 refine sq9 (zza 4 (.v (.slice none 0 0)) (zzk 5 ⟨32, zw3⟩ (zzb (sq9 (zza 20 (.v (z.v)) (zza 21 (zI z.n) (zza 6 (zI z.n) (zzb (zzd (zzz [0, 1, 0, 4, 3, 31] [(0, []), (1, []), (2, []), (3, []), (4, []), (5, [])] xk xk (zza 22 (zI z.n) ?_)))))))))))
 refine sy_make 23 (T := 26) (E := 32) (z := .agg #[.bool false, .slice none 0 0, .slice none 0 0]) (size := 3) (bytes := 56) z.n (rcs (List.replicate z.n rl0)) xk xk rfl rfl xq yv (made_rcs _) ?_
 refine zza 24 (zI z.n) (sy_make 25 (T := 26) (E := 32) (z := .agg #[.bool false, .slice none 0 0, .slice none 0 0]) (size := 3) (bytes := 56) z.n (rcs (List.replicate z.n rl0)) xk xk rfl rfl xq yv (made_rcs _) ?_)
 refine zza 7 (.slc 23 0 z.n z.n) (zza 8 (.slc 25 0 z.n z.n) (zzc 177 [(0, .v (x.v)), (1, .v (z.v)), (5, .adr 5 0), (6, zI z.n), (7, .slc 23 0 z.n z.n), (8, .slc 25 0 z.n z.n)] [(5, ⟨32, zw3⟩), (23, ⟨32, rcs (List.replicate z.n rl0)⟩), (25, ⟨32, rcs (List.replicate z.n rl0)⟩)] (zzd (sq9 (zza 26 (.v (z.v)) (zza 27 (zI z.n) (zza 28 (zI 0) (zzb (zzt (zyn (I := fun cg S' u' => ∃ (i : Nat) (L1 : List RL) (L2 : List RL), (cg = n + 1 - i) ∧ (i ≤ n + 1) ∧ (L1.length = z.n) ∧ (L2.length = z.n) ∧ (S' = St.of 177 [(0, .v (x.v)), (1, .v (z.v)), (5, .adr 5 0), (6, zI z.n), (7, .slc 23 0 z.n z.n), (8, .slc 25 0 z.n z.n), (26, .v (z.v)), (27, zI z.n), (28, zI i)] [(5, ⟨32, zw3⟩), (23, ⟨32, rcs L1⟩), (25, ⟨32, rcs L2⟩)]) ∧ (Ext u u') ∧ (RatG u' L1 (Nt.dT (Nt.xs V l) (Nt.ys V l) 0) (fun _ => 3) i) ∧ (RatG u' L2 (Nt.dT (Nt.xs V l) (Nt.sgw V l) 0) (fun _ => 3) i)) (fun m S u1 u2 e h => by obtain ⟨i, L1, L2, hm, p0, p1, p2, hS, hE, f0, f1⟩ := h; exact ⟨i, L1, L2, hm, p0, p1, p2, hS, hE.trans e, f0.ext e, f1.ext e⟩) _ yk ⟨0, List.replicate z.n rl0, List.replicate z.n rl0, rfl, by omega, zq, zq, rfl, (Ext.refl _), RatG.nil, RatG.nil⟩ ?_))))))))))
 rintro cg _ dm ⟨i, L1, L2, dC, hi, dq, dh, rfl, ac, g1, g2⟩
 refine sq9 (zza 29 (zB (decide ((i : Int) < (z.n : Int)))) (zzb (zzd (zzu (b := decide ((i : Int) < (z.n : Int))) xk (fun aH => ?_) (fun aH => ?_)))))
 ·have qhb12 := of_decide_eq_true aH
  refine zzs (zzp ?_)
  refine zzd (zzt (sq9 (zza 30 (zI i) ?_)))
  have bK : (Nt.inl l).length = z.n := ((hz.ext ac)).1
  rw [Nt.inl_len] at bK
  obtain ⟨b13, cM, bO, bh⟩ := ints_at (hz.ext ac) (i := i) (by have h9 : i < l.length := xq; omega)
  rw [Nt.inl_at] at bh
  refine zya 31 (cM + i * 1) (n := z.n) (off := cM) (sz := 1) (i := (i : Int)) xq bO xq (by first | omega | (have h9 : i < l.length := xq; omega)) sl22 (zyl 32 (.int .i64 (((l.getD i 0) : Nat) : Int)) bh ty3 (zza 9 (zI i) (zza 10 (zI (((l.getD i 0) : Nat) : Int)) (zzb (sq9 (zza 33 (.slc 23 0 z.n z.n) (zza 34 (zI i) (zza 35 (.v (x.v)) (zza 36 (zI (((l.getD i 0) : Nat) : Int)) ?_)))))))))
  have dK : x.n = N := GrN.len (hg.ext ac)
  obtain ⟨dn, ak, c8, cO, bM, bX, cC, bp, cJ, cv, ba, cc⟩ := gr_at (hg.ext ac) (i := (l.getD i 0)) (hR.lt _ xq)
  refine zya 37 (bM + (l.getD i 0) * 9) (n := x.n) (off := bM) (sz := 9) (i := (((l.getD i 0) : Nat) : Int)) xq bX xq (by first | omega | (have h9 : (l.getD i 0) < N := (hR.lt _ xq); omega)) sl23 (zza 38 (.v (.pointer (some ⟨cO, bM + (l.getD i 0) * 9 + 3, none⟩))) (zym 39 (ak.cs) bp ty32 (zyw 40 (off' := i * 3) (n := z.n) (off := 0) (sz := 3) (i := (i : Int)) sl26 xq xq xq ?_)))
  refine zyv (V := ⟨32, rcs L1⟩) (off := i * 3) (rcs ((L1).set i ak)) ty32 (by rw [zyy]; omega) (zyx (r := ak) (i := i) xq rfl) ?_
  refine zzc 177 [(0, .v (x.v)), (1, .v (z.v)), (5, .adr 5 0), (6, zI z.n), (7, .slc 23 0 z.n z.n), (8, .slc 25 0 z.n z.n), (9, zI i), (10, zI (((l.getD i 0) : Nat) : Int)), (26, .v (z.v)), (27, zI z.n), (28, zI i)] [(5, ⟨32, zw3⟩), (23, ⟨32, rcs ((L1).set i ak)⟩), (25, ⟨32, rcs L2⟩)] (zzz [0, 0, 0, 4, 12, 28, 60, 0, 0, 384, 896, 1920, 4092, 8188, 16380, 16380, 32767, 98303] [(0, []), (1, []), (2, []), (3, []), (4, []), (5, []), (7, []), (8, []), (9, []), (10, []), (11, []), (6, []), (12, []), (13, []), (14, []), (15, []), (16, []), (17, [])] xk xk (zza 42 (.slc 25 0 z.n z.n) (zza 43 (zI i) (zza 44 (zI i) (zyq 45 (x := zI (Int.tmod (i : Int) 2)) (zI (i % 2 : Nat)) (by rw [Nt.tmod2]) (zyq 46 (x := zI (IntKind.i64.wrap ((2 : Int) * (((i % 2) : Nat) : Int)))) (zI ((2 * (i % 2) : Nat) : Int)) (eqI xz) (zyq 47 (x := zI (IntKind.i64.wrap (1 - ((2 * (i % 2) : Nat) : Int)))) (zI (Nt.sgJ i)) (eqI (by rw [IntWalk.i64_in _ xq]; unfold Nt.sgJ; split <;> omega)) ?_)))))))
  have hsg : -1 ≤ Nt.sgJ i ∧ Nt.sgJ i ≤ 1 := by unfold Nt.sgJ; split <;> omega
  refine zza 49 (.v (x.v)) (zza 50 (zI (((l.getD i 0) : Nat) : Int)) ?_)
  have c7 : x.n = N := GrN.len (hg.ext ac)
  obtain ⟨c2, dE, bD, dL, bQ, b8, cy, cI, a8, ch, cd, a3⟩ := gr_at (hg.ext ac) (i := (l.getD i 0)) (hR.lt _ xq)
  refine zya 51 (bQ + (l.getD i 0) * 9) (n := x.n) (off := bQ) (sz := 9) (i := (((l.getD i 0) : Nat) : Int)) xq b8 xq (by first | omega | (have h9 : (l.getD i 0) < N := (hR.lt _ xq); omega)) sl23 (zza 52 (.v (.pointer (some ⟨dL, bQ + (l.getD i 0) * 9 + 6, none⟩))) (zym 53 (bD.cs) a8 ty32 (zzg 48 109 _ fun _ _ bj dF => Post.mono (k_ratOf dF (z := Nt.sgJ i) xq xq) ?_)))
  rintro _ u19 bu ⟨r17, rfl, dR⟩
  refine zzg 54 138 _ fun _ _ aT c5 => Post.mono (k_ratDiv1 c5 (dR.ext aT).raw (a3.ext (bj.t (bu.t aT))).raw (ho.wne (hR.lt _ xq)) xq xq) ?_
  rintro _ u25 bx ⟨bi, rfl, dA⟩
  refine zza 41 (.v (.tuple #[bi.v, .int .i64 0])) (zza 55 (.v (bi.v)) (zza 56 (zI 0) (zyw 57 (off' := i * 3) (n := z.n) (off := 0) (sz := 3) (i := (i : Int)) sl26 xq xq xq ?_)))
  refine zyv (V := ⟨32, rcs L2⟩) (off := i * 3) (rcs ((L2).set i bi)) ty32 (by rw [zyy]; omega) (zyx (r := bi) (i := i) xq rfl) ?_
  refine zzx ?_
  refine zzp (zzf (zyq 58 (x := zI (IntKind.i64.wrap ((i : Int) + 1))) (zI (i + 1 : Nat)) (eqI xz) (zza 28 (zI (i + 1 : Nat)) (zzx ?_))))
  refine ⟨_, ?_, _, by exact zzv _ _ _, i + 1, (L1).set i ak, (L2).set i bi, rfl, by omega, yz, yz, rfl, (ac.t (bj.t (bu.t (aT.t bx.ext)))), (RatG.set (g1.ext (bj.t (bu.t (aT.t bx.ext)))) xq (ba.ext (bj.t (bu.t (aT.t bx.ext)))) (fun j hj => by by_cases e : j = i; (exact .inl ⟨e, by subst e; exact Nt.dT_0, by omega⟩); exact .inr ⟨e, by omega, rfl, Nat.le_refl _⟩)), (RatG.set (g2.ext (bj.t (bu.t (aT.t bx.ext)))) xq dA (fun j hj => by by_cases e : j = i; (exact .inl ⟨e, by subst e; rw [Nt.dT_0, Nt.sgJ_q]; rfl, by omega⟩); exact .inr ⟨e, by omega, rfl, Nat.le_refl _⟩))⟩
  omega
 have qhb12 := of_decide_eq_false aH
 refine zyc (zzp (zzd (sq9 (zza 11 (zI 1) (zzb (zzt (zyn (I := fun cG S' u' => ∃ (o : Nat) (M1 : List RL) (M2 : List RL), (cG = n - o) ∧ (o ≤ n) ∧ (M1.length = z.n) ∧ (M2.length = z.n) ∧ (S' = St.of 177 [(0, .v (x.v)), (1, .v (z.v)), (5, .adr 5 0), (6, zI z.n), (7, .slc 23 0 z.n z.n), (8, .slc 25 0 z.n z.n), (11, zI (((o + 1) : Nat) : Int))] [(5, ⟨32, zw3⟩), (23, ⟨32, rcs M1⟩), (25, ⟨32, rcs M2⟩)]) ∧ (Ext dm u') ∧ (RatG u' M1 (Nt.dT (Nt.xs V l) (Nt.ys V l) o) (fun _ => Nt.sZ o) (n + 1)) ∧ (RatG u' M2 (Nt.dT (Nt.xs V l) (Nt.sgw V l) o) (fun _ => Nt.sZ o) (n + 1))) (fun m S u1 u2 e h => by obtain ⟨o, M1, M2, hm, p0, p1, p2, hS, hE, f0, f1⟩ := h; exact ⟨o, M1, M2, hm, p0, p1, p2, hS, hE.trans e, f0.ext e, f1.ext e⟩) _ yk ⟨0, L1, L2, rfl, by omega, dq, dh, rfl, (Ext.refl _), (by have h9 := g1; rw [show i = n + 1 by omega] at h9; exact h9), (by have h9 := g2; rw [show i = n + 1 by omega] at h9; exact h9)⟩ ?_)))))))
 rintro cG _ bm ⟨o, M1, M2, dt, ho9, cY, cQ, rfl, af, f1, f2⟩
 have hsz := Nt.sZ_bd (o := o) xq
 refine zzd (sq9 (zza 59 (zI (((o + 1) : Nat) : Int)) (zza 60 (zI z.n) (zza 61 (zB (decide ((((o + 1) : Nat) : Int) < (z.n : Int)))) (zzb (zzu (b := decide ((((o + 1) : Nat) : Int) < (z.n : Int))) xk (fun aM => ?_) (fun aM => ?_)))))))
 ·have qhb29 := of_decide_eq_true aM
  refine zzs (zzp ?_)
  refine zzd (zzt (sq9 (zza 64 (zI z.n) (zyq 65 (x := zI (IntKind.i64.wrap ((z.n : Int) - 1))) (zI ((n : Int))) (eqI (by rw [IntWalk.i64_in _ xq] <;> omega)) (zza 12 (zI ((n : Int))) (zzb (zzt (zyn (I := fun cw S' u' => ∃ (i : Nat) (A1 : List RL) (A2 : List RL), (cw = i - o) ∧ (o ≤ i) ∧ (i ≤ n) ∧ (A1.length = z.n) ∧ (A2.length = z.n) ∧ (S' = St.of 177 [(0, .v (x.v)), (1, .v (z.v)), (5, .adr 5 0), (6, zI z.n), (7, .slc 23 0 z.n z.n), (8, .slc 25 0 z.n z.n), (11, zI (((o + 1) : Nat) : Int)), (12, zI i)] [(5, ⟨32, zw3⟩), (23, ⟨32, rcs A1⟩), (25, ⟨32, rcs A2⟩)]) ∧ (Ext bm u') ∧ (RatG u' A1 (Nt.fM (Nt.xs V l) (Nt.ys V l) o i) (Nt.kM o i) (n + 1)) ∧ (RatG u' A2 (Nt.fM (Nt.xs V l) (Nt.sgw V l) o i) (Nt.kM o i) (n + 1))) (fun m S u1 u2 e h => by obtain ⟨i, A1, A2, hm, p0, p1, p2, p3, hS, hE, f0, f1⟩ := h; exact ⟨i, A1, A2, hm, p0, p1, p2, p3, hS, hE.trans e, f0.ext e, f1.ext e⟩) _ yk ⟨n, M1, M2, rfl, by omega, by omega, cY, cQ, rfl, (Ext.refl _), (RatG.turn f1 (fun j hj => ⟨if_neg xq, Nat.le_of_eq (if_neg xq).symm⟩)), (RatG.turn f2 (fun j hj => ⟨if_neg xq, Nat.le_of_eq (if_neg xq).symm⟩))⟩ ?_))))))))
  rintro cw _ u30 ⟨i, A1, A2, db, hi0, hi1, c3, dU, rfl, an, e1, e2⟩
  refine zzd (sq9 (zza 66 (zI i) (zza 67 (zI (((o + 1) : Nat) : Int)) (zza 68 (zB (decide ((((o + 1) : Nat) : Int) ≤ (i : Int)))) (zzb (zzu (b := decide ((((o + 1) : Nat) : Int) ≤ (i : Int))) xk (fun aO => ?_) (fun aO => ?_)))))))
  ·have qhb31 := of_decide_eq_true aO
   refine zzs (zzp ?_)
   refine zzd (zzt (zzd (zzz [0, 0, 0, 6, 14, 31, 63, 127, 0, 0, 0, 0, 3072, 7680, 15872, 32512, 65280, 130816, 262143, 0, 1048575] [(0, []), (1, []), (2, []), (3, []), (4, []), (5, []), (6, []), (7, []), (8, []), (9, []), (10, []), (11, []), (12, []), (13, []), (14, []), (15, []), (16, []), (17, []), (19, []), (18, []), (20, [])] xk xk (zza 71 (.v (x.v)) (zza 72 (.v (z.v)) (zza 73 (zI i) ?_))))))
   have b3 : (Nt.inl l).length = z.n := ((hz.ext (ac.trans (af.trans an)))).1
   rw [Nt.inl_len] at b3
   obtain ⟨b32, cu, b1, bs⟩ := ints_at (hz.ext (ac.trans (af.trans an))) (i := i) (by have h9 : i < l.length := xq; omega)
   rw [Nt.inl_at] at bs
   refine zya 74 (cu + i * 1) (n := z.n) (off := cu) (sz := 1) (i := (i : Int)) xq b1 xq (by first | omega | (have h9 : i < l.length := xq; omega)) sl22 (zyl 75 (.int .i64 (((l.getD i 0) : Nat) : Int)) bs ty3 ?_)
   have cW : x.n = N := GrN.len (hg.ext (ac.trans (af.trans an)))
   obtain ⟨b0, dM, ds, dD, b6, cb, br, cF, cB, bg, cq, cp⟩ := gr_at (hg.ext (ac.trans (af.trans an))) (i := (l.getD i 0)) (hR.lt _ xq)
   refine zya 76 (b6 + (l.getD i 0) * 9) (n := x.n) (off := b6) (sz := 9) (i := (((l.getD i 0) : Nat) : Int)) xq cb xq (by first | omega | (have h9 : (l.getD i 0) < N := (hR.lt _ xq); omega)) sl23 (zza 77 (.v (.pointer (some ⟨dD, b6 + (l.getD i 0) * 9, none⟩))) (zym 78 (b0.cs) br ty32 (zza 79 (.v (x.v)) (zza 80 (.v (z.v)) (zza 81 (zI i) (zza 82 (zI (((o + 1) : Nat) : Int)) (zyq 83 (x := zI (IntKind.i64.wrap ((i : Int) - (((o + 1) : Nat) : Int)))) (zI ((i - (o + 1) : Nat) : Int)) (eqI xz) ?_)))))))
   have bA : (Nt.inl l).length = z.n := ((hz.ext (ac.trans (af.trans an)))).1
   rw [Nt.inl_len] at bA
   obtain ⟨b34, ck, bJ, bt⟩ := ints_at (hz.ext (ac.trans (af.trans an))) (i := i - (o + 1)) (by have h9 : i - (o + 1) < l.length := xq; omega)
   rw [Nt.inl_at] at bt
   refine zya 84 (ck + (i - (o + 1)) * 1) (n := z.n) (off := ck) (sz := 1) (i := ((i - (o + 1) : Nat) : Int)) xq bJ xq (by first | omega | (have h9 : i - (o + 1) < l.length := xq; omega)) sl22 (zyl 85 (.int .i64 (((l.getD (i - (o + 1)) 0) : Nat) : Int)) bt ty3 ?_)
   have cS : x.n = N := GrN.len (hg.ext (ac.trans (af.trans an)))
   obtain ⟨bP, dj, dO, cV, bG, bS, aZ, cD, cz, a1, cn, cK⟩ := gr_at (hg.ext (ac.trans (af.trans an))) (i := (l.getD (i - (o + 1)) 0)) (hR.lt _ xq)
   refine zya 86 (bG + (l.getD (i - (o + 1)) 0) * 9) (n := x.n) (off := bG) (sz := 9) (i := (((l.getD (i - (o + 1)) 0) : Nat) : Int)) xq bS xq (by first | omega | (have h9 : (l.getD (i - (o + 1)) 0) < N := (hR.lt _ xq); omega)) sl23 (zza 87 (.v (.pointer (some ⟨cV, bG + (l.getD (i - (o + 1)) 0) * 9, none⟩))) (zym 88 (bP.cs) aZ ty32 (zzk 13 ⟨32, zw3⟩ (zzg 89 139 _ fun _ _ av dS => Post.mono (k_ratSub dS (bg.ext av).raw (a1.ext av).raw xq xq) ?_))))
   rintro _ u39 aJ ⟨bn, rfl, cA⟩
   refine zzj ⟨32, bn.cs⟩ ty32 ?_
   refine zzc 177 [(0, .v (x.v)), (1, .v (z.v)), (5, .adr 5 0), (6, zI z.n), (7, .slc 23 0 z.n z.n), (8, .slc 25 0 z.n z.n), (11, zI (((o + 1) : Nat) : Int)), (12, zI i), (13, .adr 13 0)] [(5, ⟨32, zw3⟩), (13, ⟨32, bn.cs⟩), (23, ⟨32, rcs A1⟩), (25, ⟨32, rcs A2⟩)] (zzd (zzz [0, 0, 0, 0, 12, 28, 0, 0, 128, 448, 960, 2044, 0, 8188, 16380, 32764, 32764, 65535, 196607] [(0, []), (1, []), (2, []), (3, []), (4, []), (5, []), (6, []), (7, []), (8, []), (9, []), (10, []), (12, []), (11, []), (13, []), (14, []), (15, []), (16, []), (17, []), (18, [])] xk xk (zza 91 (.slc 23 0 z.n z.n) (zza 92 (zI i) (zza 93 (.slc 23 0 z.n z.n) (zza 94 (zI i) (zyw 95 (off' := i * 3) (n := z.n) (off := 0) (sz := 3) (i := (i : Int)) sl26 xq xq xq ?_)))))))
   obtain ⟨c4, ay⟩ : ∃ r : RL, (A1).getD i rl0 = r := ⟨_, rfl⟩
   refine zzi 96 (V := ⟨32, rcs A1⟩) (off := i * 3) (.v c4.v) ty32 (by have h9 := part_rcs (L := A1) (i := i) (off := i * 3) xq rfl; rw [ay] at h9; exact h9) ?_
   have h43 := (e1.ext (av.t aJ.ext)) i xq
   rw [show Nt.fM (Nt.xs V l) (Nt.ys V l) o i i = Nt.dT (Nt.xs V l) (Nt.ys V l) o i from if_neg xq, show Nt.kM o i i = Nt.sZ o from if_neg xq, ay] at h43
   refine zza 97 (.slc 23 0 z.n z.n) (zza 98 (zI i) (zyq 99 (x := zI (IntKind.i64.wrap ((i : Int) - 1))) (zI (i - 1 : Nat)) (eqI xz) (zyw 100 (off' := (i - 1) * 3) (n := z.n) (off := 0) (sz := 3) (i := ((i - 1 : Nat) : Int)) sl26 xq xq xq ?_)))
   obtain ⟨c9, ax⟩ : ∃ r : RL, (A1).getD (i - 1) rl0 = r := ⟨_, rfl⟩
   refine zzi 101 (V := ⟨32, rcs A1⟩) (off := (i - 1) * 3) (.v c9.v) ty32 (by have h9 := part_rcs (L := A1) (i := i - 1) (off := (i - 1) * 3) xq rfl; rw [ax] at h9; exact h9) ?_
   have h45 := (e1.ext (av.t aJ.ext)) (i - 1) xq
   rw [show Nt.fM (Nt.xs V l) (Nt.ys V l) o i (i - 1) = Nt.dT (Nt.xs V l) (Nt.ys V l) o (i - 1) from if_neg xq, show Nt.kM o i (i - 1) = Nt.sZ o from if_neg xq, ax] at h45
   refine zzi 103 (.v (bn.v)) ty32 zze (zzg 102 139 _ fun _ _ aq dy => Post.mono (k_ratSub dy (h43.ext aq).raw (h45.ext aq).raw xq xq) ?_)
   rintro _ u49 aF ⟨r47, rfl, dG⟩
   refine zzg 104 138 _ fun _ _ aB dk => Post.mono (k_ratDiv1 dk (dG.ext aB).raw (cA.ext (aq.t (aF.t aB))).raw (ho.gap hR xq xq) xq xq) ?_
   rintro _ u55 aU ⟨aY, rfl, di⟩
   refine zza 90 (.v (.tuple #[aY.v, .int .i64 0])) (zza 105 (.v (aY.v)) (zza 106 (zI 0) (zyw 107 (off' := i * 3) (n := z.n) (off := 0) (sz := 3) (i := (i : Int)) sl26 xq xq xq ?_)))
   refine zyv (V := ⟨32, rcs A1⟩) (off := i * 3) (rcs ((A1).set i aY)) ty32 (by rw [zyy]; omega) (zyx (r := aY) (i := i) xq rfl) ?_
   refine zzc 177 [(0, .v (x.v)), (1, .v (z.v)), (5, .adr 5 0), (6, zI z.n), (7, .slc 23 0 z.n z.n), (8, .slc 25 0 z.n z.n), (11, zI (((o + 1) : Nat) : Int)), (12, zI i), (13, .adr 13 0)] [(5, ⟨32, zw3⟩), (13, ⟨32, bn.cs⟩), (23, ⟨32, rcs ((A1).set i aY)⟩), (25, ⟨32, rcs A2⟩)] (zzz [0, 0, 0, 0, 12, 28, 0, 0, 128, 448, 960, 2044, 0, 8188, 16380, 32764, 32764, 65535, 196607] [(0, []), (1, []), (2, []), (3, []), (4, []), (5, []), (6, []), (7, []), (8, []), (9, []), (10, []), (12, []), (11, []), (13, []), (14, []), (15, []), (16, []), (17, []), (18, [])] xk xk (zza 109 (.slc 25 0 z.n z.n) (zza 110 (zI i) (zza 111 (.slc 25 0 z.n z.n) (zza 112 (zI i) (zyw 113 (off' := i * 3) (n := z.n) (off := 0) (sz := 3) (i := (i : Int)) sl26 xq xq xq ?_))))))
   obtain ⟨c6, aC⟩ : ∃ r : RL, (A2).getD i rl0 = r := ⟨_, rfl⟩
   refine zzi 114 (V := ⟨32, rcs A2⟩) (off := i * 3) (.v c6.v) ty32 (by have h9 := part_rcs (L := A2) (i := i) (off := i * 3) xq rfl; rw [aC] at h9; exact h9) ?_
   have h59 := (e2.ext (av.t (aJ.t (aq.t (aF.t (aB.t aU.ext)))))) i xq
   rw [show Nt.fM (Nt.xs V l) (Nt.sgw V l) o i i = Nt.dT (Nt.xs V l) (Nt.sgw V l) o i from if_neg xq, show Nt.kM o i i = Nt.sZ o from if_neg xq, aC] at h59
   refine zza 115 (.slc 25 0 z.n z.n) (zza 116 (zI i) (zyq 117 (x := zI (IntKind.i64.wrap ((i : Int) - 1))) (zI (i - 1 : Nat)) (eqI xz) (zyw 118 (off' := (i - 1) * 3) (n := z.n) (off := 0) (sz := 3) (i := ((i - 1 : Nat) : Int)) sl26 xq xq xq ?_)))
   obtain ⟨cX, aD⟩ : ∃ r : RL, (A2).getD (i - 1) rl0 = r := ⟨_, rfl⟩
   refine zzi 119 (V := ⟨32, rcs A2⟩) (off := (i - 1) * 3) (.v cX.v) ty32 (by have h9 := part_rcs (L := A2) (i := i - 1) (off := (i - 1) * 3) xq rfl; rw [aD] at h9; exact h9) ?_
   have h61 := (e2.ext (av.t (aJ.t (aq.t (aF.t (aB.t aU.ext)))))) (i - 1) xq
   rw [show Nt.fM (Nt.xs V l) (Nt.sgw V l) o i (i - 1) = Nt.dT (Nt.xs V l) (Nt.sgw V l) o (i - 1) from if_neg xq, show Nt.kM o i (i - 1) = Nt.sZ o from if_neg xq, aD] at h61
   refine zzi 121 (.v (bn.v)) ty32 zze (zzg 120 139 _ fun _ _ aQ cP => Post.mono (k_ratSub cP (h59.ext aQ).raw (h61.ext aQ).raw xq xq) ?_)
   rintro _ u65 a7 ⟨r63, rfl, dw⟩
   refine zzg 122 138 _ fun _ _ aR dJ => Post.mono (k_ratDiv1 dJ (dw.ext aR).raw (cA.ext (aq.t (aF.t (aB.t (aU.t (aQ.t (a7.t aR))))))).raw (ho.gap hR xq xq) xq xq) ?_
   rintro _ u71 bw ⟨be, rfl, c1⟩
   refine zza 108 (.v (.tuple #[be.v, .int .i64 0])) (zza 123 (.v (be.v)) (zza 124 (zI 0) (zyw 125 (off' := i * 3) (n := z.n) (off := 0) (sz := 3) (i := (i : Int)) sl26 xq xq xq ?_)))
   refine zyv (V := ⟨32, rcs A2⟩) (off := i * 3) (rcs ((A2).set i be)) ty32 (by rw [zyy]; omega) (zyx (r := be) (i := i) xq rfl) ?_
   refine zzx ?_
   refine zzp (zzf (zza 69 (zI i) (zyq 70 (x := zI (IntKind.i64.wrap ((i : Int) - 1))) (zI (i - 1 : Nat)) (eqI xz) (zza 12 (zI (i - 1 : Nat)) (zzx ?_)))))
   refine ⟨_, ?_, _, by exact zzv _ _ _, i - 1, (A1).set i aY, (A2).set i be, rfl, by omega, by omega, yz, yz, rfl, (an.t (av.t (aJ.t (aq.t (aF.t (aB.t (aU.t (aQ.t (a7.t (aR.t bw.ext)))))))))), (RatG.set (e1.ext (av.t (aJ.t (aq.t (aF.t (aB.t (aU.t (aQ.t (a7.t (aR.t bw.ext)))))))))) xq (di.ext (aQ.t (a7.t (aR.t bw.ext)))) (fun j hj => by by_cases e : j = i; (subst e; exact .inl ⟨rfl, (if_pos xq).trans (Nt.dT_s xq), by unfold Nt.kM; rw [if_pos xq]; show _ ≤ 2 * Nt.sZ o + 4; omega⟩); (exact .inr ⟨e, hj, by unfold Nt.fM; split <;> split <;> first | rfl | omega, by unfold Nt.kM; split <;> split <;> first | exact Nat.le_refl _ | omega⟩))), (RatG.set (e2.ext (av.t (aJ.t (aq.t (aF.t (aB.t (aU.t (aQ.t (a7.t (aR.t bw.ext)))))))))) xq c1 (fun j hj => by by_cases e : j = i; (subst e; exact .inl ⟨rfl, (if_pos xq).trans (Nt.dT_s xq), by unfold Nt.kM; rw [if_pos xq]; show _ ≤ 2 * Nt.sZ o + 4; omega⟩); (exact .inr ⟨e, hj, by unfold Nt.fM; split <;> split <;> first | rfl | omega, by unfold Nt.kM; split <;> split <;> first | exact Nat.le_refl _ | omega⟩)))⟩
   omega
  have qhb31 := of_decide_eq_false aO
  refine zyc (zzp (zzf (zza 62 (zI (((o + 1) : Nat) : Int)) (zyq 63 (x := zI (IntKind.i64.wrap ((((o + 1) : Nat) : Int) + 1))) (zI (((o + 1) + 1 : Nat) : Int)) (eqI xz) (zza 11 (zI (((o + 1) + 1 : Nat) : Int)) (zzx ?_))))))
  refine ⟨_, ?_, _, by exact zzv _ _ _, o + 1, A1, A2, rfl, by omega, c3, dU, rfl, (af.trans an), (RatG.turn e1 (fun j hj => by by_cases e : o < j; (exact ⟨(if_pos e).symm.trans (by rw [show i = o by omega]; rfl), Nat.le_of_eq (by rw [show i = o by omega]; exact if_pos e)⟩); (exact ⟨(Nt.dT_keep xq).trans ((if_neg e).symm.trans (by rw [show i = o by omega]; rfl)), by rw [show i = o by omega]; show (if o < j then _ else _) ≤ _; rw [if_neg e]; exact Nt.sZ_le _ _ xq⟩))), (RatG.turn e2 (fun j hj => by by_cases e : o < j; (exact ⟨(if_pos e).symm.trans (by rw [show i = o by omega]; rfl), Nat.le_of_eq (by rw [show i = o by omega]; exact if_pos e)⟩); (exact ⟨(Nt.dT_keep xq).trans ((if_neg e).symm.trans (by rw [show i = o by omega]; rfl)), by rw [show i = o by omega]; show (if o < j then _ else _) ≤ _; rw [if_neg e]; exact Nt.sZ_le _ _ xq⟩)))⟩
  omega
 have qhb29 := of_decide_eq_false aM
 refine zyc (zzp (zzd ?_))
 have hon : o = n := by omega
 have G1 : RatG bm M1 (Nt.dT (Nt.xs V l) (Nt.ys V l) n) (fun _ => Nt.sZ n) (n + 1) := by have h9 := f1; rw [hon] at h9; exact h9
 have G2 : RatG bm M2 (Nt.dT (Nt.xs V l) (Nt.sgw V l) n) (fun _ => Nt.sZ n) (n + 1) := by have h9 := f2; rw [hon] at h9; exact h9
 have hsn := Nt.sZ_bd (o := n) xq
 refine zzz [0, 0, 2, 7, 15, 0, 0, 64, 224, 480, 1023, 2047, 4095, 4095, 0, 24575, 65535] [(0, []), (1, []), (2, []), (3, []), (4, []), (5, []), (6, []), (7, []), (8, []), (9, []), (14, []), (10, []), (11, []), (12, []), (13, []), (15, []), (16, [])] xk xk (zza 127 (.slc 23 0 z.n z.n) (zza 128 (zI z.n) (zyq 129 (x := zI (IntKind.i64.wrap ((z.n : Int) - 1))) (zI ((n : Int))) (eqI (by rw [IntWalk.i64_in _ xq] <;> omega)) (zyw 130 (off' := n * 3) (n := z.n) (off := 0) (sz := 3) (i := (n : Int)) sl26 xq xq xq ?_))))
 obtain ⟨dx, aE⟩ : ∃ r : RL, (M1).getD n rl0 = r := ⟨_, rfl⟩
 refine zzi 131 (V := ⟨32, rcs M1⟩) (off := n * 3) (.v dx.v) ty32 (by have h9 := part_rcs (L := M1) (i := n) (off := n * 3) xq rfl; rw [aE] at h9; exact h9) ?_
 have cr : RatN bm _ (Nt.dT (Nt.xs V l) (Nt.ys V l) n n) (Nt.sZ n) := G1 n xq
 rw [aE] at cr
 refine zza 132 (.slc 25 0 z.n z.n) (zza 133 (zI z.n) (zyq 134 (x := zI (IntKind.i64.wrap ((z.n : Int) - 1))) (zI ((n : Int))) (eqI (by rw [IntWalk.i64_in _ xq] <;> omega)) (zyw 135 (off' := n * 3) (n := z.n) (off := 0) (sz := 3) (i := (n : Int)) sl26 xq xq xq ?_)))
 obtain ⟨dQ, az⟩ : ∃ r : RL, (M2).getD n rl0 = r := ⟨_, rfl⟩
 refine zzi 136 (V := ⟨32, rcs M2⟩) (off := n * 3) (.v dQ.v) ty32 (by have h9 := part_rcs (L := M2) (i := n) (off := n * 3) xq rfl; rw [az] at h9; exact h9) ?_
 have cE : RatN bm _ (Nt.dT (Nt.xs V l) (Nt.sgw V l) n n) (Nt.sZ n) := G2 n xq
 rw [az] at cE
 refine zzk 14 ⟨32, zw3⟩ (zzg 137 138 _ fun _ _ aA dI => Post.mono (k_ratDiv1 dI (cr.ext aA).raw (cE.ext aA).raw (ho.lvne hR) xq xq) ?_)
 rintro _ cN aV ⟨ag, rfl, dv⟩
 refine zza 126 (.v (.tuple #[ag.v, .int .i64 0])) (zza 138 (.v (ag.v)) (zza 139 (zI 0) (zzj ⟨32, ag.cs⟩ ty32 ?_)))
 refine zza 15 (zI 0) (zzc 177 [(0, .v (x.v)), (1, .v (z.v)), (5, .adr 5 0), (6, zI z.n), (7, .slc 23 0 z.n z.n), (8, .slc 25 0 z.n z.n), (14, .adr 14 0)] [(5, ⟨32, zw3⟩), (14, ⟨32, ag.cs⟩), (23, ⟨32, rcs M1⟩), (25, ⟨32, rcs M2⟩)] (zzd ?_))
 have cH : RatN cN ag (Nt.eL V l) 2700 := by have h9 := dv; rw [Nt.lvl_e hR] at h9; exact RatN.fit h9 (Nt.eL_B ho hR)
 refine zzf (zza 16 (.v (.slice none 0 0)) (zzb (zzd (sq9 (zza 140 (zI z.n) (zyq 141 (x := zI (IntKind.i64.wrap ((z.n : Int) - 2))) (zI ((n : Int) - 1)) (eqI (by rw [IntWalk.i64_in _ xq] <;> omega)) (zza 17 (zI ((n : Int) - 1)) (zzb (zzt (zyn (I := fun cx S' u' => ∃ (m : Nat) (yp : Sl), (cx = m) ∧ (m ≤ n) ∧ (S' = St.of 177 [(0, .v (x.v)), (1, .v (z.v)), (5, .adr 5 0), (7, .slc 23 0 z.n z.n), (8, .slc 25 0 z.n z.n), (14, .adr 14 0), (16, .v (yp.v)), (17, zI ((m : Int) - 1))] [(5, ⟨32, zw3⟩), (14, ⟨32, ag.cs⟩), (23, ⟨32, rcs M1⟩), (25, ⟨32, rcs M2⟩)]) ∧ (Ext cN u') ∧ (PolN u' yp (Nt.nwL (Nt.xs V l) (Nt.cL V l) n (n - m)) 60000)) (fun m S u1 u2 e h => by obtain ⟨m, yp, hm, p0, hS, hE, f0⟩ := h; exact ⟨m, yp, hm, p0, hS, hE.trans e, f0.ext e⟩) _ yk ⟨n, ⟨none, 0, 0⟩, rfl, Nat.le_refl _, rfl, (Ext.refl _), (by rw [Nat.sub_self]; exact pol_nil _ _)⟩ ?_))))))))))
 rintro cx _ u84 ⟨m, yp, dP, hm, rfl, au, hP⟩
 have hPl := hP.len
 have hnl : (Nt.nwL (Nt.xs V l) (Nt.cL V l) n (n - m)).length ≤ 11 := Nat.le_trans (Nt.nwL_len _) xq
 refine zzd (sq9 (zza 142 (zI ((m : Int) - 1)) (zza 143 (zB (decide ((0 : Int) ≤ ((m : Int) - 1)))) (zzb (zzu (b := decide ((0 : Int) ≤ ((m : Int) - 1))) xk (fun aG => ?_) (fun aG => ?_))))))
 ·have qhb85 := of_decide_eq_true aG
  refine zzs (zzp ?_)
  refine zzd (zzt (sq9 (zza 146 (.v (x.v)) (zza 147 (.v (z.v)) (zyq 148 (x := zI ((m : Int) - 1)) (zI (((m - 1 : Nat) : Int))) (eqI xq) ?_)))))
  have b9 : (Nt.inl l).length = z.n := ((hz.ext (ac.t (af.t (aA.t (aV.t au)))))).1
  rw [Nt.inl_len] at b9
  obtain ⟨b86, cl, bU, bv⟩ := ints_at (hz.ext (ac.t (af.t (aA.t (aV.t au))))) (i := (m - 1)) (by have h9 : (m - 1) < l.length := xq; omega)
  rw [Nt.inl_at] at bv
  refine zya 149 (cl + (m - 1) * 1) (n := z.n) (off := cl) (sz := 1) (i := ((m - 1 : Nat) : Int)) xq bU xq (by first | omega | (have h9 : (m - 1) < l.length := xq; omega)) sl22 (zyl 150 (.int .i64 (((l.getD (m - 1) 0) : Nat) : Int)) bv ty3 ?_)
  have cU : x.n = N := GrN.len (hg.ext (ac.t (af.t (aA.t (aV.t au)))))
  obtain ⟨bL, du, cZ, c0, ca, b2, bl, ct, cj, bq, cf, cm⟩ := gr_at (hg.ext (ac.t (af.t (aA.t (aV.t au))))) (i := (l.getD (m - 1) 0)) (hR.lt _ xq)
  refine zya 151 (ca + (l.getD (m - 1) 0) * 9) (n := x.n) (off := ca) (sz := 9) (i := (((l.getD (m - 1) 0) : Nat) : Int)) xq b2 xq (by first | omega | (have h9 : (l.getD (m - 1) 0) < N := (hR.lt _ xq); omega)) sl23 (zza 152 (.v (.pointer (some ⟨c0, ca + (l.getD (m - 1) 0) * 9, none⟩))) (zym 153 (bL.cs) bl ty32 (zzg 154 79 _ fun _ _ aW de => Post.mono (k_ratNeg de (bq.ext aW).raw xq) ?_)))
  rintro _ u91 a4 ⟨ce, rfl, dB⟩
  refine zzg 155 109 _ fun _ _ aS da => Post.mono (k_ratOf da (z := 1) xq xq) ?_
  rintro _ u97 aX ⟨ci, rfl, cT⟩
  refine zxx 156 ⟨32, ce.cs ++ ci.cs⟩ 2 (fun ap aP ad bV => ?_)
  have a9 : PolN aP (⟨some ⟨ap, 0, none⟩, 2, 2⟩ : Sl) [(-(Nt.gX V (l.getD (m - 1) 0))), ((1 : Int) : Rat)] (max 1 2) := pol_lit (L := [ce, ci]) bV (rats2 (RatN.more (L := (max 1 2)) (dB.ext (aS.t (aX.t ad))) xq) (RatN.more (L := (max 1 2)) (cT.ext ad) xq)) rfl yq
  refine zza 18 (.v (.slice (some ⟨ap, 0, none⟩) 2 2)) (zzb (zzd (zzz [0, 0, 3, 7, 0, 0, 0, 96, 224, 496, 1023, 0, 4095] [(0, []), (1, []), (2, []), (3, []), (4, []), (5, []), (6, []), (7, []), (8, []), (11, []), (9, []), (10, []), (12, [])] xk xk (zza 157 (.slc 23 0 z.n z.n) (zyq 158 (x := zI ((m : Int) - 1)) (zI (((m - 1 : Nat) : Int))) (eqI xq) (zyw 159 (off' := (m - 1) * 3) (n := z.n) (off := 0) (sz := 3) (i := ((m - 1 : Nat) : Int)) sl26 xq xq xq ?_))))))
  obtain ⟨bF, aj⟩ : ∃ r : RL, (M1).getD (m - 1) rl0 = r := ⟨_, rfl⟩
  refine zzi 160 (V := ⟨32, rcs M1⟩) (off := (m - 1) * 3) (.v bF.v) ty32 (by have h9 := part_rcs (L := M1) (i := (m - 1)) (off := (m - 1) * 3) xq rfl; rw [aj] at h9; exact h9) ?_
  have bf : RatN aP _ (Nt.dT (Nt.xs V l) (Nt.ys V l) n (m - 1)) (Nt.sZ n) := (G1.ext (aA.t (aV.t (au.t (aW.t (a4.t (aS.t (aX.t ad)))))))) (m - 1) xq
  rw [aj] at bf
  refine zzi 161 (.v (ag.v)) ty32 zze (zza 162 (.slc 25 0 z.n z.n) (zyq 163 (x := zI ((m : Int) - 1)) (zI (((m - 1 : Nat) : Int))) (eqI xq) (zyw 164 (off' := (m - 1) * 3) (n := z.n) (off := 0) (sz := 3) (i := ((m - 1 : Nat) : Int)) sl26 xq xq xq ?_)))
  obtain ⟨bT, ah⟩ : ∃ r : RL, (M2).getD (m - 1) rl0 = r := ⟨_, rfl⟩
  refine zzi 165 (V := ⟨32, rcs M2⟩) (off := (m - 1) * 3) (.v bT.v) ty32 (by have h9 := part_rcs (L := M2) (i := (m - 1)) (off := (m - 1) * 3) xq rfl; rw [ah] at h9; exact h9) ?_
  have a6 : RatN aP _ (Nt.dT (Nt.xs V l) (Nt.sgw V l) n (m - 1)) (Nt.sZ n) := (G2.ext (aA.t (aV.t (au.t (aW.t (a4.t (aS.t (aX.t ad)))))))) (m - 1) xq
  rw [ah] at a6
  refine zzk 19 ⟨32, zw3⟩ (zzg 166 113 _ fun _ _ ae b5 => Post.mono (k_ratMul b5 (cH.ext (au.t (aW.t (a4.t (aS.t (aX.t (ad.trans ae))))))).raw (a6.ext ae).raw xq xq) ?_)
  rintro _ dc ar ⟨dp, rfl, bR⟩
  refine zzg 167 139 _ fun _ _ am b4 => Post.mono (k_ratSub b4 (bf.ext (ae.t (ar.t am))).raw (bR.ext am).raw xq xq) ?_
  rintro _ dN aK ⟨aa, rfl, bE⟩
  refine zzj ⟨32, aa.cs⟩ ty32 ?_
  refine zzc 177 [(0, .v (x.v)), (1, .v (z.v)), (5, .adr 5 0), (7, .slc 23 0 z.n z.n), (8, .slc 25 0 z.n z.n), (14, .adr 14 0), (16, .v (yp.v)), (17, zI ((m : Int) - 1)), (18, .v (.slice (some ⟨ap, 0, none⟩) 2 2)), (19, .adr 19 0)] [(5, ⟨32, zw3⟩), (14, ⟨32, ag.cs⟩), (19, ⟨32, aa.cs⟩), (23, ⟨32, rcs M1⟩), (25, ⟨32, rcs M2⟩)] (zzz [0, 0, 3, 0, 8, 31, 63] [(0, []), (1, []), (3, []), (4, []), (2, []), (5, [172]), (6, [])] xk xk (zza 168 (.v (yp.v)) (zza 169 (.v (.slice (some ⟨ap, 0, none⟩) 2 2)) (zzi 171 (.v (aa.v)) ty32 zze (sy_lit 172 ⟨32, aa.cs⟩ 1 ?_)))))
  refine zzg 170 130 _ fun _ _ aw bI => Post.mono (k_poMul bI (hP.ext (aW.t (a4.t (aS.t (aX.t (ad.t (ae.t (ar.t (am.t (aK.t aw)))))))))).raw (a9.ext (ae.t (ar.t (am.t (aK.t aw))))).raw (Nat.le_trans (Nt.mlK_mono (n' := 11) (m' := 2) (K' := 60000) (M' := 3) hnl (Nat.le_refl 2) (Nat.le_refl _) xq) (show Nt.mlK 11 2 60000 3 ≤ 30000000 by decide)) xq (show (2 + 1) * _ ≤ _ by omega) xq (show 2 ≤ _ by decide)) ?_
  rintro _ dr bb ⟨ao, rfl, h123⟩
  replace h123 := PolN.more h123 (Nat.le_trans (Nt.mlK_mono (n' := 11) (m' := 2) (K' := 60000) (M' := 3) hnl (Nat.le_refl 2) (Nat.le_refl _) xq) (show Nt.mlK 11 2 60000 3 ≤ 30000000 by decide))
  have hly122 := h123.len
  have hlly122 := Nt.mul_len9 hnl (show ([(-(Nt.gX V (l.getD (m - 1) 0))), ((1 : Int) : Rat)] : List Rat).length ≤ 2 from Nat.le_refl 2)
  refine zyo 173 115 [.v (ao.v), .slc 172 0 1 1] [172] (.inr rfl) (pub_mk xw) (k := ?_)
  intro aI cR a5 aN bH bB
  have bc : a5.heap[aI 172]? = some (.cells #[.bool aa.s, .slice aa.m.a aa.m.n aa.m.c, .slice aa.d.a aa.d.n aa.d.c] 32 (0, 0)) := bB 172 zq _ rfl
  obtain ⟨bW, al⟩ : ∃ b, aI 172 = b := ⟨_, rfl⟩
  rw [al] at bc
  have a2 : PolN a5 (⟨some ⟨bW, 0, none⟩, 1, 1⟩ : Sl) [((Nt.dT (Nt.xs V l) (Nt.ys V l) n (m - 1)) - ((Nt.eL V l) * (Nt.dT (Nt.xs V l) (Nt.sgw V l) n (m - 1))))] ((Nt.sZ n) + (2700 + (Nt.sZ n)) + 1) := pol_lit (L := [aa]) bc (rats1 (bE.ext (aw.t (bb.t aN)))) rfl yq
  show Calls _ _ #[.slice ao.a ao.n ao.c, .slice (some ⟨aI 172, 0, none⟩) 1 1] _ _
  rw [al]
  have k136 := k_poAdd bH (h123.ext aN).raw a2.raw xq xq xq (by first | (show 1 ≤ _; decide) | omega)
  with_reducible refine zPm k136 ?_
  rintro _ bz bY ⟨aL, rfl, bo⟩
  have hly132 := bo.len
  refine zza 16 (.v (aL.v)) (zzx ?_)
  refine zzp (zzf (zza 144 (zI ((m : Int) - 1)) (zyq 145 (x := zI (IntKind.i64.wrap ((m : Int) - 1 - 1))) (zI (((m - 1 : Nat) : Int) - 1)) (eqI (by rw [IntWalk.i64_in _ xq] <;> omega)) (zza 17 (zI (((m - 1 : Nat) : Int) - 1)) (zzx ?_)))))
  have hcl : Nt.cL V l (m - 1) = Nt.dT (Nt.xs V l) (Nt.ys V l) n (m - 1) - Nt.eL V l * Nt.dT (Nt.xs V l) (Nt.sgw V l) n (m - 1) := by unfold Nt.cL; rw [hl, Nat.add_sub_cancel]
  have hPn : PolN bz aL (Nt.nwL (Nt.xs V l) (Nt.cL V l) n (n - (m - 1))) 60000 := PolN.fitR (K := (30000000 + ((Nt.sZ n) + (2700 + (Nt.sZ n)) + 1) + 1)) (by rw [show n - (m - 1) = (n - m) + 1 by omega]; show PolN _ _ (Nt.trimQ (Nt.addQ (Nt.trimQ (Nt.mulQ _ [-Nt.xs V l (n - (n - m + 1)), _])) [Nt.cL V l (n - (n - m + 1))])) _; rw [show n - (n - m + 1) = m - 1 by omega, hcl]; exact bo) (fun i => Nt.lvl_rs ho hR xq i)
  refine ⟨_, ?_, _, by exact zzv _ _ _, m - 1, aL, rfl, by omega, rfl, (au.t (aW.t (a4.t (aS.t (aX.t (ad.t (ae.t (ar.t (am.t (aK.t (aw.t (bb.t (aN.t bY.ext))))))))))))), hPn⟩
  omega
 have qhb85 := of_decide_eq_false aG
 refine zyc (zzp (zzd (zzz [0, 1, 0, 3, 15] [(0, []), (2, []), (1, []), (3, []), (4, [])] xk xk (zza 174 (.v (yp.v)) (zzi 176 (.v (ag.v)) ty32 zze (zzg 175 117 _ fun _ _ bk bN => Post.mono (k_poTrim bN (hP.ext bk).raw xq xj) ?_))))))
 rintro _ df bC ⟨ai, rfl, a0⟩
 have hly138 := a0.len
 refine zza 4 (.v (ai.v)) (zzj ⟨32, ag.cs⟩ ty32 ?_)
 refine zzc 177 [(4, .v (ai.v)), (5, .adr 5 0)] [(5, ⟨32, ag.cs⟩)] (zzo (ret0 [ai.v, ag.v] ⟨zzq, zzr ty32 zze, trivial⟩ fun b7 bd => ?_))
 have dH : PolN b7 ai (Nt.pL V l) 60000 := by have h9 := (a0.ext bd); rw [show n - m = n by omega, Nt.trim_nwL hn1, ← Nt.lvl_pL hR] at h9; exact h9
 exact ⟨ai, ag, rfl, dH, (cH.ext (au.t (bk.t (bC.t bd))))⟩
namespace Nt
section
variable {V : List Rat} {N n a pl : Nat} {l : List Nat} {like : Bool}
def exF (V : List Rat) (l : List Nat) : Rat := ab (rE (gX V) (gW V) (gY V) l)
def exN (V : List Rat) (N n : Nat) (l : List Nat) : Nat := exM (exF V) N (n + 1) (exF V l)
theorem sgQ_1 {x : Rat} (h : 0 < x) : sgQ x = 1 := by unfold sgQ cmpQ; rw [if_neg (by grind), if_neg (by grind)]
theorem sgQ_m {x : Rat} (h : x < 0) : sgQ x = -1 := by unfold sgQ cmpQ; rw [if_pos h]
theorem sgQ_0 : sgQ 0 = 0 := by unfold sgQ cmpQ; rw [if_neg (by grind), if_pos rfl]
def fst1 (e : Rat) : Int := if sgQ e = 0 then 1 else sgQ e
theorem ab_eq (x : Rat) : absQ x = ab x := rfl
theorem exF_lt (hR : Rf N l n) {m : List Nat} (hm : Rf N m n) (h : exF V l < exF V m) : exN V N n m < exN V N n l := exM_lt hm.len hm.mem h
theorem exR_off (g : GrOK V N) (hR : Rf N l n) (h1 : 1 ≤ n) (hc : absQ (eL V l) < absQ (gE (gX V) (gW V) (gY V) (pL V l) a)) {i : Nat} (hi : i ≤ n) : l.getD i 0 ≠ a := fun e => by
 have := lvl_at g hR h1 hi
 rw [e] at this
 rw [this, ab_eq, ab_eq, ab_sg] at hc
 grind
theorem design_step (g : GrOK V N) (hR : Rf N l n) (h1 : 1 ≤ n) (ha : a < N) (hc : absQ (eL V l) < absQ (gE (gX V) (gW V) (gY V) (pL V l) a)) (hp1 : pl ≤ n + 1) (hp2 : ∀ i, i < pl → (inl l).getD i 0 < (a : Int)) (hp3 : pl < n + 1 → (a : Int) ≤ (inl l).getD pl 0) (hlk : like = (sgQ (gE (gX V) (gW V) (gY V) (pL V l) a) == fst1 (eL V l))) : Rf N (exL l a like pl) n ∧ exN V N n (exL l a like pl) < exN V N n l := by
 obtain ⟨E, hE⟩ : ∃ E, eL V l = E := ⟨_, rfl⟩
 obtain ⟨G, hG⟩ : ∃ G, gE (gX V) (gW V) (gY V) (pL V l) a = G := ⟨_, rfl⟩
 have hoff := fun i hi => exR_off (a := a) g hR h1 hc (i := i) hi
 have hq1 : ∀ i, i < pl → l.getD i 0 < a := fun i hi => by have := hp2 i hi; rw [inl_at] at this; omega
 have hq2 : ∀ i, pl ≤ i → i ≤ n → a < l.getD i 0 := fun i hi hn => by
  have h9 := hp3 xq
  rw [inl_at] at h9
  have h8 := hoff i hn
  by_cases e : i = pl
  ·rw [e] at h8 ⊢; omega
  have := hR.asc pl i xq hn
  omega
 have hRf := exL_Rf (like := like) hR ha hp1 hq1 hq2
 refine ⟨hRf, exF_lt hR hRf ?_⟩
 have he : ∀ i, i ≤ n → gE (gX V) (gW V) (gY V) (pL V l) (l.getD i 0) = sg1 i * E := fun i hi => by rw [lvl_at g hR h1 hi, hE]
 rw [hE, hG] at hc hlk
 have hrE : rE (gX V) (gW V) (gY V) l = E := hE
 unfold exF
 rw [hrE]
 have hG0 : G ≠ 0 := fun e => by
  rw [e] at hc
  have : absQ 0 = 0 := by decide +kernel
  rw [this] at hc
  have := ab_nn E
  rw [ab_eq] at hc; grind
 obtain ⟨τ, hτ⟩ : ∃ τ : Rat, (if E < 0 then (-1 : Rat) else 1) = τ := ⟨_, rfl⟩
 have hτ1 : τ = 1 ∨ τ = -1 := by rw [← hτ]; split <;> simp
 refine exL_grow (τ := τ) hR g.gr ha hp1 hq1 hq2 (lvl_len hR) he hτ1 ?_ (by rw [hG]; exact hc) ?_
 ·rw [← hτ]; unfold ab; split <;> grind
 rw [hG]
 have hf : fst1 E = if E < 0 then -1 else 1 := by
  unfold fst1
  by_cases c : E < 0
  ·rw [sgQ_m c, if_pos c]; rfl
  rw [if_neg c]
  by_cases c2 : E = 0
  ·rw [c2, sgQ_0]; rfl
  rw [sgQ_1 (by grind)]; rfl
 rw [hf] at hlk
 by_cases c : E < 0
 ·rw [if_pos c] at hlk hτ
  by_cases c2 : G < 0
  ·rw [sgQ_m c2] at hlk
   have : like = true := by rw [hlk]; rfl
   rw [this, if_pos rfl, ← hτ]; grind
  rw [sgQ_1 (by grind)] at hlk
  have : like = false := by rw [hlk]; rfl
  rw [this, if_neg yq, ← hτ]; grind
 rw [if_neg c] at hlk hτ
 by_cases c2 : G < 0
 ·rw [sgQ_m c2] at hlk
  have : like = false := by rw [hlk]; rfl
  rw [this, if_neg yq, ← hτ]; grind
 rw [sgQ_1 (by grind)] at hlk
 have : like = true := by rw [hlk]; rfl
 rw [this, if_pos rfl, ← hτ]; grind
theorem design_end (g : GrOK V N) (hR : Rf N l n) (h1 : 1 ≤ n) (hG : Gst (erL V (pL V l) N) N a) (hc : ¬ absQ (eL V l) < absQ (gE (gX V) (gW V) (gY V) (pL V l) a)) : Bst (gX V) (gW V) (gY V) N n (pL V l) l ∧ absQ (gE (gX V) (gW V) (gY V) (pL V l) a) = absQ (eL V l) := by
 have hmax : ∀ b, b < N → ab (gE (gX V) (gW V) (gY V) (pL V l) b) ≤ ab (rE (gX V) (gW V) (gY V) l) := fun b hb => by
  have h9 := hG.le b hb
  rw [erL_at hb, erL_at hG.lt] at h9
  have h8 : ab (gE (gX V) (gW V) (gY V) (pL V l) a) ≤ ab (rE (gX V) (gW V) (gY V) l) := by
   rw [ab_eq, ab_eq] at hc
   have : eL V l = rE (gX V) (gW V) (gY V) l := rfl
   rw [this] at hc; grind
  grind
 refine ⟨⟨hR, lvl_len hR, hmax⟩, ?_⟩
 have h8 := hG.le (l.getD 0 0) (hR.lt 0 xq)
 rw [erL_at (hR.lt 0 xq), erL_at hG.lt, lvl_at g hR h1 xq, ab_sg] at h8
 rw [ab_eq, ab_eq] at hc ⊢
 grind
end
end Nt
section
variable {P : Program} {w0 : Base} {u0 : World} {S T : St} {B : Tmp → Nat} {a : Act} {w u u' : World} {Q : MP} {c d A C R : Code}
theorem mpr_into {I : Nat → St → World → Prop} {Q : MP} {hI : ∀ m, Mono (I m)} (h : Q.f .ret S u) : (MP.into I Q hI).f .ret S u := h
theorem sw_scope2 {l : Nat} {I : Nat → St → World → Prop} (hI : ∀ m, Mono (I m)) (hf : findLabel (.seq A (.seq C (.seq (.label l) R))) l = some (.seq .skip R)) (hA : SW P w0 u0 A S u (MP.seq P w0 u0 C (MP.into I Q hI))) (h : ∀ n S u, I n S u → SW P w0 u0 R S u (MP.jump l I n Q hI)) : SW P w0 u0 (.scope (.seq A (.seq C (.seq (.label l) R)))) S u Q := by
 intro B a w u' e hr
 let J : Nat → Act → World → Prop := fun n a w => ∃ S B u'', Rep w0 u0 S B a w u'' ∧ I n S u''
 let μ : Act → World → Nat := fun a w => Classical.epsilon fun m => J m a w ∧ ∀ k, J k a w → m ≤ k
 have hμ : ∀ a w n, J n a w → J (μ a w) a w ∧ μ a w ≤ n := fun a w n hn => by
  have := Classical.epsilon_spec (p := fun m => J m a w ∧ ∀ k, J k a w → m ≤ k) (least n hn)
  exact ⟨this.1, this.2 n hn⟩
 refine wp_scope_jumps l (fun a w => ∃ n, J n a w) μ hf ?_ ?_
 ·refine wp_seq (wp_mono (hA B a w u' e hr) fun ex a' w' ⟨S', B', u'', k1, k3⟩ => ?_)
  cases ex with
  | normal =>
   refine wp_seq (wp_mono (k3 B' a' w' u'' (Ext.refl _) k1) fun ex a' w' ⟨S', B', u'', k1, k3⟩ => ?_)
   cases ex with
   | normal =>
    obtain ⟨m, T', t1, t2⟩ := k3
    refine wp_seq (wp_label ?_)
    refine wp_mono (h m T' u'' t2 B' a' w' u'' (Ext.refl _) (k1.weak t1)) fun ex a' w' ⟨S', B', u'', k1, k3⟩ => ?_
    cases ex with
    | goto l' =>
     obtain ⟨rfl, m, hm, T', t1, t2⟩ := k3
     exact ⟨rfl, m, T', B', u'', k1.weak t1, t2⟩
    | _ => exact ⟨S', B', u'', k1, k3⟩
   | goto l' => exact k3.elim
   | _ => exact ⟨S', B', u'', k1, k3⟩
  | goto l' => exact k3.elim
  | _ => exact ⟨S', B', u'', k1, k3⟩
 rintro a w ⟨n, hn⟩
 obtain ⟨S1, B1, u1, r1, i1⟩ := (hμ a w n hn).1
 refine wp_seq (wp_skip ?_)
 refine wp_mono (h _ S1 u1 i1 B1 a w u1 (Ext.refl _) r1) fun ex a' w' ⟨S', B', u'', k1, k3⟩ => ?_
 cases ex with
 | goto l' =>
  obtain ⟨rfl, m, hm, T', t1, t2⟩ := k3
  have hJ : J m a' w' := ⟨T', B', u'', k1.weak t1, t2⟩
  exact ⟨rfl, ⟨m, hJ⟩, Nat.lt_of_le_of_lt (hμ a' w' m hJ).2 hm⟩
 | _ => exact ⟨S', B', u'', k1, k3⟩
end
set_option maxHeartbeats 2000000 in
theorem Nt.inl_inj {l m : List Nat} (h : Nt.inl l = Nt.inl m) : l = m := by
 have := congrArg (List.map Int.toNat) h
 unfold Nt.inl at this
 rw [List.map_map, List.map_map] at this
 have e : (Int.toNat ∘ fun a : Nat => (a : Int)) = id := by funext a; simp
 rw [e, List.map_id, List.map_id] at this; exact this
theorem k_exLevel {u w : World} {x : Sl} {N : Nat} {V : List Rat} (d : Dat u w) (hg : GrN u x N V 1) (ho : Nt.GrOK V N) {z : Sl} {L : List Int} (hz : SlR .i64 u z.a z.n z.c L) (hb : ∀ x ∈ L, -9223372036854775808 ≤ x ∧ x ≤ 9223372036854775807) : Calls Tryz.prog 25 #[x.v, z.v] w (Post u w fun v u' => (v = .tuple #[.slice none 0 0, .agg #[.bool false, .slice none 0 0, .slice none 0 0], .int .i64 1] ∧ (L.length < 2 ∨ 52 < L.length ∨ ¬ Nt.Up (N : Int) L)) ∨ ∃ (l : List Nat) (n : Nat) (y : Sl) (r : RL), L = Nt.inl l ∧ Nt.Rf N l n ∧ 1 ≤ n ∧ v = .tuple #[y.v, r.v, .int .i64 0] ∧ PolN u' y (Nt.pL V l) 60000 ∧ RatN u' r (Nt.eL V l) 2700) := by
 have hxn : x.n = N := hg.len
 have hN12 := ho.n12
 have hN1 := ho.n1
 have hzn : L.length = z.n := hz.1
 have hzm : z.n ≤ maxLen := Nat.le_trans hz.2.1 hz.2.2.1
 unfold maxLen at hzm
 refine zzm (args := [x.v, z.v]) Tryz.func25 rfl Tryz.ntmps25 (rs := [.tmp 4, .cell 5 32, .tmp 6]) Tryz.results25 (le_b rfl) (le_b rfl) d ?_
 refine sq9 (zza 4 (.v (.slice none 0 0)) (zzk 5 ⟨32, zw3⟩ (zza 6 (zI 0) (zzb (zzd (sq9 (zza 9 (.v (x.v)) (zzg 10 89 _ fun _ _ ah aq => Post.mono (k_lsqValid aq (hg.ext ah) ho) ?_))))))))
 rintro _ u12 ai rfl
 refine zza 11 (zB false) (zzb (zys xk (zzs (zzp ?_))))
 refine zzd (sq9 (zza 13 (.v (z.v)) (zza 14 (zI z.n) (zza 15 (zB (decide ((z.n : Int) < 2))) ?_))))
 rcases Bool.eq_false_or_eq_true (decide ((z.n : Int) < 2)) with hs15 | hs15
 ·refine zyq 16 (x := zB (decide ((z.n : Int) < 2))) (zB true) (by rw [hs15]) ?_
  have qhs15 := of_decide_eq_true hs15
  refine zzn 17 (uw 3 false true 16) (zzn 18 (uw 3 false true 16) (zzn 19 (uw 3 false true 16) (zza 20 (zB true) (zza 21 (zB true) (zzn 22 (uw 8 false true 21) (zzn 23 (uw 8 false true 21) (zzn 24 (uw 8 false true 21) (zzn 25 (uw 8 false true 21) (zzn 26 (uw 8 false true 21) (zza 27 (zB true) (zzb ?_)))))))))))
  refine zyr xk (sq9 (zza 28 (.v (.agg #[.bool false, .slice none 0 0, .slice none 0 0])) (zza 4 (.v (.slice none 0 0)) (zzj ⟨32, zw3⟩ ty32 ?_))))
  refine zza 6 (zI 1) (zzb (zzo (zzw (ret0 [.slice none 0 0, .agg #[.bool false, .slice none 0 0, .slice none 0 0], .int .i64 1] ⟨zzq, zzr ty32 zze, zzq, trivial⟩ fun u16 e17 => ?_))))
  try have qhs15 := of_decide_eq_true hs15
  exact .inl ⟨rfl, by omega⟩
 refine zyq 16 (x := zB (decide ((z.n : Int) < 2))) (zB false) (by rw [hs15]) ?_
 have qhs15 := of_decide_eq_false hs15
 refine zza 17 (.v (z.v)) ?_ (hw := w1 3 false 16)
 refine zza 18 (zI z.n) ?_ (hw := w1 3 false 16)
 refine zza 19 (zB (decide ((52 : Int) < (z.n : Int)))) ?_ (hw := w1 3 false 16)
 refine zza 20 (zB (decide ((52 : Int) < (z.n : Int)))) ?_
 rcases Bool.eq_false_or_eq_true (decide ((52 : Int) < (z.n : Int))) with hs18 | hs18
 ·refine zyq 21 (x := zB (decide ((52 : Int) < (z.n : Int)))) (zB true) (by rw [hs18]) ?_
  have qhs18 := of_decide_eq_true hs18
  refine zzn 22 (uw 8 false true 21) (zzn 23 (uw 8 false true 21) (zzn 24 (uw 8 false true 21) (zzn 25 (uw 8 false true 21) (zzn 26 (uw 8 false true 21) (zza 27 (zB true) (zzb (zyr xk (sq9 (zza 28 (.v (.agg #[.bool false, .slice none 0 0, .slice none 0 0])) (zza 4 (.v (.slice none 0 0)) (zzj ⟨32, zw3⟩ ty32 ?_)))))))))))
  refine zza 6 (zI 1) (zzb (zzo (zzw (ret0 [.slice none 0 0, .agg #[.bool false, .slice none 0 0, .slice none 0 0], .int .i64 1] ⟨zzq, zzr ty32 zze, zzq, trivial⟩ fun u19 e20 => ?_))))
  try have qhs15 := of_decide_eq_false hs15
  try have qhs18 := of_decide_eq_true hs18
  exact .inl ⟨rfl, by omega⟩
 refine zyq 21 (x := zB (decide ((52 : Int) < (z.n : Int)))) (zB false) (by rw [hs18]) ?_
 have qhs18 := of_decide_eq_false hs18
 refine zza 22 (.v (z.v)) ?_ (hw := w1 8 false 21)
 refine zza 23 (.v (x.v)) ?_ (hw := w1 8 false 21)
 refine zza 24 (zI x.n) ?_ (hw := w1 8 false 21)
 refine zzg 25 77 _ (fun _ _ ak ap => Post.mono (k_ascending (z := z) (N := (x.n : Int)) ap (hz.ext (ah.t (ai.t ak))) hb) ?_) (hw := w1 8 false 21)
 rintro _ u24 an ⟨ac, rfl, aa⟩
 refine zza 26 (zB (!ac)) ?_ (hw := w1 8 false 21)
 refine zza 27 (zB (!ac)) (zzb (zzu (b := !ac) xk (fun af => ?_) (fun af => ?_)))
 ·refine sq9 (zza 28 (.v (.agg #[.bool false, .slice none 0 0, .slice none 0 0])) (zza 4 (.v (.slice none 0 0)) (zzj ⟨32, zw3⟩ ty32 ?_)))
  refine zza 6 (zI 1) (zzb (zzo (zzw (ret0 [.slice none 0 0, .agg #[.bool false, .slice none 0 0, .slice none 0 0], .int .i64 1] ⟨zzq, zzr ty32 zze, zzq, trivial⟩ fun u28 e29 => ?_))))
  try have qhs15 := of_decide_eq_false hs15
  try have qhs18 := of_decide_eq_false hs18
  refine .inl ⟨rfl, .inr (.inr (fun hu => ?_))⟩
  have h9 : ac = false := by simpa using af
  have h8 := aa.2 (by rw [hxn]; exact hu)
  rw [h9] at h8; exact absurd h8 yq
 refine zzs (zzp ?_)
 refine zzd ?_
 have hU : Nt.Up (N : Int) L := by rw [hxn] at aa; exact aa.1 (by simpa using af)
 try have qhs15 := of_decide_eq_false hs15
 try have qhs18 := of_decide_eq_false hs18
 obtain ⟨l, hLl, hR⟩ := Nt.up_inl (n := L.length - 1) hU xq
 have hzl := hz
 rw [hLl] at hzl
 have ao : 1 ≤ L.length - 1 := by omega
 refine zzf (zza 30 (.v (x.v)) (zza 31 (.v (z.v)) (zzg 32 61 _ fun _ _ am ar => Post.mono (k_levelled (z := z) (n := (L.length - 1)) ar (hg.ext (ah.t (ai.t (ak.t (an.t am))))) ho (hzl.ext (ah.t (ai.t (ak.t (an.t am))))) hR xq) ?_)))
 rintro _ u32 g33 ⟨ae, ad, rfl, ag, aj⟩
 have hly31 := ag.len
 have hlly31 := Nt.lvl_len (V := V) hR
 refine zza 29 (.v (.tuple #[ae.v, ad.v])) (zza 33 (.v (ae.v)) (zza 34 (.v (ad.v)) (zzk 8 ⟨32, zw3⟩ (zza 7 (.v (ae.v)) (zzj ⟨32, ad.cs⟩ ty32 ?_)))))
 refine zzb (zzd (zzz [0, 0, 1, 7, 15] [(0, []), (1, []), (2, []), (3, []), (4, [])] xk xk (zza 35 (.v (ae.v)) (zzi 36 (.v (ad.v)) ty32 zze (zza 4 (.v (ae.v)) (zzj ⟨32, ad.cs⟩ ty32 ?_))))))
 refine zza 6 (zI 0) (zzc 37 [(4, .v (ae.v)), (5, .adr 5 0), (6, zI 0)] [(5, ⟨32, ad.cs⟩)] (zzo (ret0 [ae.v, ad.v, .int .i64 0] ⟨zzq, zzr ty32 zze, zzq, trivial⟩ fun u35 al => ?_)))
 exact .inr ⟨l, L.length - 1, ae, ad, hLl, hR, ao, rfl, (ag.ext al), (aj.ext al)⟩
theorem k_exLevelR {u w : World} {z : Sl} {l : List Nat} {n : Nat} {x : Sl} {N : Nat} {V : List Rat} (d : Dat u w) (hg : GrN u x N V 1) (ho : Nt.GrOK V N) (hz : SlR .i64 u z.a z.n z.c (Nt.inl l)) (hR : Nt.Rf N l n) (hn1 : 1 ≤ n) : Calls Tryz.prog 25 #[x.v, z.v] w (Post u w fun v u' => ∃ (y : Sl) (r : RL), v = .tuple #[y.v, r.v, .int .i64 0] ∧ PolN u' y (Nt.pL V l) 60000 ∧ RatN u' r (Nt.eL V l) 2700) := by
 have hn := hR.n11 ho.n12
 refine Post.mono (k_exLevel d hg ho hz (Nt.inl_bd hR.mem (by have := ho.n12; omega))) ?_
 rintro v u' _ (⟨_, h⟩ | ⟨l', n', y, r, e, hR', _, rfl, hp, hq⟩)
 ·rw [Nt.inl_len, hR.len] at h
  rcases h with h | h | h
  ·omega
  ·omega
  exact absurd hR.up h
 have : l' = l := Nt.inl_inj e.symm
 subst this
 exact ⟨y, r, rfl, hp, hq⟩
set_option maxHeartbeats 8000000 in
theorem k_exDesign {u w : World} {D : Nat} {x : Sl} {N : Nat} {V : List Rat} (d : Dat u w) (hg : GrN u x N V 1) (ho : Nt.GrOK V N) (hD : D + 2 ≤ N) : Calls Tryz.prog 13 #[x.v, .int .i64 (D : Int)] w (Post u w fun v u' => ∃ (y : Sl) (r : RL) (b : Nat) (l : List Nat), v = .tuple #[.agg #[.slice y.a y.n y.c, .bool r.s, .slice r.m.a r.m.n r.m.c, .slice r.d.a r.d.n r.d.c, .slice (some ⟨b, 0, none⟩) (D + 2) (D + 2)], .int .i64 0] ∧ PolN u' y (Nt.pL V l) 60000 ∧ RatN u' r (Nt.absQ (Nt.eL V l)) 1400000 ∧ SlR .i64 u' (some ⟨b, 0, none⟩) (D + 2) (D + 2) (Nt.inl l) ∧ Nt.Bst (Nt.gX V) (Nt.gW V) (Nt.gY V) N (D + 1) (Nt.pL V l) l) := by
 have hxn : x.n = N := hg.len
 have hN12 := ho.n12
 have hN1 := ho.n1
 have hwr : Nt.wrE N (D : Int) = 0 := by unfold Nt.wrE; rw [if_neg xq, if_neg xq]
 refine zzm (args := [x.v, .int .i64 D]) Tryz.func13 rfl Tryz.ntmps13 (rs := [.cell 4 34, .tmp 5]) Tryz.results13 (le_b rfl) (le_b rfl) d ?_
 refine sq9 (zzk 4 ⟨34, [.slice none 0 0, .bool false, .slice none 0 0, .slice none 0 0, .slice none 0 0]⟩ (zza 5 (zI 0) (zzb (sw_scope2 (I := fun a6 S' u' => ∃ (b : Nat) (l : List Nat), (a6 = Nt.exN V N (D + 1) l) ∧ (Nt.Rf N l (D + 1)) ∧ (S' = St.of 64 [(0, .v (x.v)), (4, .adr 4 0), (7, .v (.slice (some ⟨b, 0, none⟩) (D + 2) (D + 2)))] [(4, ⟨34, [.slice none 0 0, .bool false, .slice none 0 0, .slice none 0 0, .slice none 0 0]⟩)]) ∧ (Ext u u') ∧ (MutQ 1 3 u.heap.size u' (⟨some ⟨b, 0, none⟩, D + 2, D + 2⟩ : Sl) (ics (Nt.inl l)))) (fun m S u1 u2 e h => by obtain ⟨b, l, hm, p0, hS, hE, f0⟩ := h; exact ⟨b, l, hm, p0, hS, hE.trans e, f0.ext e⟩) xk ?_ ?_))))
 ·skip
  refine sq9 (zza 14 (.v (x.v)) (zza 15 (zI D) (zzg 16 59 _ fun _ _ a2 bt => Post.mono (k_exWrong (D := (D : Int)) bt (hg.ext a2) ho) ?_)))
  rintro _ u13 bb rfl
  refine zza 6 (zI (Nt.wrE N (D : Int))) (zzb (sq9 (zza 17 (zI (Nt.wrE N (D : Int))) (zza 18 (zB ((Nt.wrE N (D : Int)) != 0)) (zzb (zzu (b := (Nt.wrE N (D : Int)) != 0) xk (fun hb => ?_) (fun hb => ?_)))))))
  ·exact absurd hb (by rw [show ((Nt.wrE N (D : Int)) != 0) = false from (by rw [hwr]; rfl)]; decide)
  clear hb
  refine zzs (zzp ?_)
  refine zzf (zza 21 (.v (x.v)) (zza 22 (zI x.n) (zza 23 (zI D) (zyq 24 (x := zI (IntKind.i64.wrap ((D : Int) + 2))) (zI (D + 2 : Nat)) (eqI xz) (zzg 25 60 _ fun _ _ be bu => Post.mono (k_spread (N := x.n) (k := D + 2) bu xq xq xq) ?_)))))
  rintro _ u18 bl ⟨a1, bi, rfl, a4, aR, aF⟩
  refine zza 7 (.v (.slice (some ⟨a1, 0, none⟩) (D + 2) (D + 2))) (zzx ?_)
  exact mpi_into (T := St.of 64 [(0, .v (.slice x.a x.n x.c)), (4, .adr 4 0), (7, .v (.slice (some ⟨a1, 0, none⟩) (D + 2) (D + 2)))] [(4, ⟨34, [.slice none 0 0, .bool false, .slice none 0 0, .slice none 0 0, .slice none 0 0]⟩)]) yk ⟨a1, bi, rfl, (by have h9 := aF; rw [hxn] at h9; exact h9), rfl, (a2.t (bb.t (be.t bl.ext))), (MutQ.lit aR (by rw [zwi, Nt.inl_len, Nt.Rf.len aF]; omega) yv (Nat.le_trans (Ext.size (a2.t (bb.t be))) a4) nu_ics)⟩
 rintro a6 _ u11 ⟨b, l, bs, hR, rfl, ax, hm⟩
 have hlk : l.length = D + 2 := by have h9 := hR.len; omega
 have hpl9 := Nt.lvl_len (V := V) hR
 refine sq9 (zza 27 (.v (x.v)) (zza 28 (.v (.slice (some ⟨b, 0, none⟩) (D + 2) (D + 2))) (zzg 29 61 _ fun _ _ ao bo => Post.mono (k_levelled (z := (⟨some ⟨b, 0, none⟩, D + 2, D + 2⟩ : Sl)) (n := (D + 1)) bo (hg.ext (ax.trans ao)) ho (MutQ.slr (hm.ext ao)) hR xq) ?_)))
 rintro _ u23 ar ⟨ap, az, rfl, aw, aJ⟩
 have hly22 := aw.len
 have hlly22 := Nt.lvl_len (V := V) hR
 refine zza 26 (.v (.tuple #[ap.v, az.v])) (zza 30 (.v (ap.v)) (zza 31 (.v (az.v)) (zzk 9 ⟨32, zw3⟩ (zza 8 (.v (ap.v)) (zzj ⟨32, az.cs⟩ ty32 ?_)))))
 refine zzb (sq9 (zza 32 (.v (x.v)) (zza 33 (.v (ap.v)) (zzg 34 62 _ fun _ _ aj bk => Post.mono (k_errorsOf (M := 1400000) bk (hg.ext (ax.t (ao.t (ar.t aj)))) ho (aw.ext aj).raw xq xq yq) ?_))))
 rintro _ u29 an ⟨av, rfl, al⟩
 refine zza 10 (.v (av.v)) (zzb (sq9 (zza 36 (.v (av.v)) (zzg 37 63 _ fun _ _ af bA => Post.mono (k_greatest (n := N) bA (al.ext af) Nt.erL_len xq xq xq) ?_))))
 rintro _ u34 ag ⟨aA, aa, rfl, aE, aC⟩
 have hgl33 := Nt.Gst.lt aC
 refine zza 35 (.v (.tuple #[aA.v, .int .i64 aa])) (zza 38 (.v (aA.v)) (zza 39 (zI aa) (zzk 11 ⟨32, zw3⟩ (zzj ⟨32, aA.cs⟩ ty32 ?_))))
 refine zza 12 (zI aa) (zzb (zzd (zzd (zzz [0, 0, 2, 7, 15] [(0, []), (1, []), (2, []), (3, []), (4, [])] xk xk (zzi 40 (.v (aA.v)) ty32 zze (zzi 41 (.v (az.v)) ty32 zze (zzg 42 65 _ fun _ _ ac bC => Post.mono (k_ratAbs bC (aJ.ext (aj.t (an.t (af.t (ag.t ac))))).raw xq) ?_)))))))
 rintro _ u40 ae ⟨r38, rfl, bn⟩
 refine zzg 43 64 _ fun _ _ ad bh => Post.mono (k_exCompare bh (aE.ext (ac.t (ae.t ad))) (RatN.toP (bn.ext ad)) xq xq) ?_
 rintro _ u44 ah rfl
 refine zza 44 (zB (decide ((0 : Int) < (Nt.cmpQ (Nt.absQ ((Nt.erL V (Nt.pL V l) N).getD aa 0)) (Nt.absQ (Nt.eL V l)))))) (zzb (zzu (b := decide ((0 : Int) < (Nt.cmpQ (Nt.absQ ((Nt.erL V (Nt.pL V l) N).getD aa 0)) (Nt.absQ (Nt.eL V l))))) xk (fun ai => ?_) (fun ai => ?_)))
 ·have qhb47 := of_decide_eq_true ai
  refine sq9 (zzi 45 (.v (az.v)) ty32 zze (zzg 46 66 _ fun _ _ ak bg => Post.mono (k_ratSign bg (aJ.ext (aj.t (an.t (af.t (ag.t (ac.t (ae.t (ad.t (ah.t ak))))))))).raw) ?_))
  rintro _ u49 am rfl
  refine zza 13 (zI (Nt.sgQ (Nt.eL V l))) (zzc 64 [(0, .v (x.v)), (4, .adr 4 0), (7, .v (.slice (some ⟨b, 0, none⟩) (D + 2) (D + 2))), (10, .v (av.v)), (12, zI aa), (13, zI (Nt.sgQ (Nt.eL V l)))] [(4, ⟨34, [.slice none 0 0, .bool false, .slice none 0 0, .slice none 0 0, .slice none 0 0]⟩)] (zzd (sq9 (zza 47 (zI (Nt.sgQ (Nt.eL V l))) (zza 48 (zB ((Nt.sgQ (Nt.eL V l)) == 0)) (zzb (zzu (b := (Nt.sgQ (Nt.eL V l)) == 0) xk (fun au => ?_) (fun au => ?_))))))))
  ·refine zzf (zza 13 (zI 1) (zzb (sq9 (zza 49 (.v (.slice (some ⟨b, 0, none⟩) (D + 2) (D + 2))) (zza 50 (zI aa) (zza 51 (.v (av.v)) (zza 52 (zI aa) ?_)))))))
   have hl53 := PolP.len (al.ext (af.t (ag.t (ac.t (ae.t (ad.t (ah.t (ak.t am.ext))))))))
   rw [Nt.erL_len] at hl53
   obtain ⟨bz, b53, bc, aQ, aV, aI⟩ := polp_at (al.ext (af.t (ag.t (ac.t (ae.t (ad.t (ah.t (ak.t am.ext)))))))) (i := aa) (by rw [Nt.erL_len]; omega)
   rw [Nt.erL_at xq] at aI
   refine zya 53 (bc + aa * 3) (n := av.n) (off := bc) (sz := 3) (i := (aa : Int)) xq aQ xq xq sl26 (zym 54 bz.cs aV ty32 (zzg 55 66 _ fun _ _ aN bw => Post.mono (k_ratSign bw ((RatP.raw aI).ext aN)) ?_))
   rintro _ u55 aS rfl
   refine zza 56 (zI 1) (zza 57 (zB ((Nt.sgQ (Nt.gE (Nt.gX V) (Nt.gW V) (Nt.gY V) (Nt.pL V l) aa)) == 1)) ?_)
   have hA58 := (hm).ext (ao.t (ar.t (aj.t (an.t (af.t (ag.t (ac.t (ae.t (ad.t (ah.t (ak.t (am.t (aN.t aS.ext)))))))))))))
   refine zwk (mqB (⟨some ⟨b, 0, none⟩, (D + 2), (D + 2)⟩ : Sl) []) 58 67 [.slice (some ⟨b, 0, none⟩) (D + 2) (D + 2), .int .i64 aa, .bool ((Nt.sgQ (Nt.gE (Nt.gX V) (Nt.gW V) (Nt.gY V) (Nt.pL V l) aa)) == 1)] (MutQ.mayF hA58 (Ext.size (Ext.refl _))) (fun w58 u58 a9 bm => k_exchange (v0 := u) (like := (Nt.sgQ (Nt.gE (Nt.gX V) (Nt.gW V) (Nt.gY V) (Nt.pL V l) aa)) == 1) bm (Ext.t (ax.t (ao.t (ar.t (aj.t (an.t (af.t (ag.t (ac.t (ae.t (ad.t (ah.t (ak.t (am.t (aN.t aS.ext)))))))))))))) a9) (hA58.ext a9) hlk xq xq xq) (fun v58 bx aZ aW => ?_)
   obtain ⟨rfl, aB, bd, aG, aL, aT⟩ := aW
   have eR58 := ExtF.rootL aZ hA58 (ax.t (ao.t (ar.t (aj.t (an.t (af.t (ag.t (ac.t (ae.t (ad.t (ah.t (ak.t (am.t (aN.t aS.ext))))))))))))))
   refine zzb ?_
   have hcc := Nt.cmpg_y _ _ ai
   rw [Nt.erL_at xq] at hcc
   have hds := Nt.design_step (a := aa) (pl := aB) (like := (Nt.sgQ (Nt.gE (Nt.gX V) (Nt.gW V) (Nt.gY V) (Nt.pL V l) aa)) == 1) ho hR xq xq hcc xq aG (fun h9 => aL xq) (by unfold Nt.fst1; rw [if_pos (by simpa using au)])
   have hds2 := hds.2
   refine sw_goto (mpg_seq (mpg_jump (m := _) (T := St.of 64 [(0, .v (x.v)), (4, .adr 4 0), (7, .v (.slice (some ⟨b, 0, none⟩) (D + 2) (D + 2)))] [(4, ⟨34, [.slice none 0 0, .bool false, .slice none 0 0, .slice none 0 0, .slice none 0 0]⟩)]) ?_ yk ⟨b, (Nt.exL l aa ((Nt.sgQ (Nt.gE (Nt.gX V) (Nt.gW V) (Nt.gY V) (Nt.pL V l) aa)) == 1) aB), rfl, hds.1, rfl, eR58, aT⟩))
   omega
  refine zzs (zzp ?_)
  refine sq9 (zza 49 (.v (.slice (some ⟨b, 0, none⟩) (D + 2) (D + 2))) (zza 50 (zI aa) (zza 51 (.v (av.v)) (zza 52 (zI aa) ?_))))
  have hl59 := PolP.len (al.ext (af.t (ag.t (ac.t (ae.t (ad.t (ah.t (ak.t am.ext))))))))
  rw [Nt.erL_len] at hl59
  obtain ⟨bj, b59, a7, aO, aX, aD⟩ := polp_at (al.ext (af.t (ag.t (ac.t (ae.t (ad.t (ah.t (ak.t am.ext)))))))) (i := aa) (by rw [Nt.erL_len]; omega)
  rw [Nt.erL_at xq] at aD
  refine zya 53 (a7 + aa * 3) (n := av.n) (off := a7) (sz := 3) (i := (aa : Int)) xq aO xq xq sl26 (zym 54 bj.cs aX ty32 (zzg 55 66 _ fun _ _ aM bq => Post.mono (k_ratSign bq ((RatP.raw aD).ext aM)) ?_))
  rintro _ u61 a3 rfl
  refine zza 56 (zI (Nt.sgQ (Nt.eL V l))) (zza 57 (zB ((Nt.sgQ (Nt.gE (Nt.gX V) (Nt.gW V) (Nt.gY V) (Nt.pL V l) aa)) == (Nt.sgQ (Nt.eL V l)))) ?_)
  have hA64 := (hm).ext (ao.t (ar.t (aj.t (an.t (af.t (ag.t (ac.t (ae.t (ad.t (ah.t (ak.t (am.t (aM.t a3.ext)))))))))))))
  refine zwk (mqB (⟨some ⟨b, 0, none⟩, (D + 2), (D + 2)⟩ : Sl) []) 58 67 [.slice (some ⟨b, 0, none⟩) (D + 2) (D + 2), .int .i64 aa, .bool ((Nt.sgQ (Nt.gE (Nt.gX V) (Nt.gW V) (Nt.gY V) (Nt.pL V l) aa)) == (Nt.sgQ (Nt.eL V l)))] (MutQ.mayF hA64 (Ext.size (Ext.refl _))) (fun w64 u64 bf bp => k_exchange (v0 := u) (like := (Nt.sgQ (Nt.gE (Nt.gX V) (Nt.gW V) (Nt.gY V) (Nt.pL V l) aa)) == (Nt.sgQ (Nt.eL V l))) bp (Ext.t (ax.t (ao.t (ar.t (aj.t (an.t (af.t (ag.t (ac.t (ae.t (ad.t (ah.t (ak.t (am.t (aM.t a3.ext)))))))))))))) bf) (hA64.ext bf) hlk xq xq xq) (fun v64 bv aY a0 => ?_)
  obtain ⟨rfl, aH, ba, ay, aK, aP⟩ := a0
  have eR64 := ExtF.rootL aY hA64 (ax.t (ao.t (ar.t (aj.t (an.t (af.t (ag.t (ac.t (ae.t (ad.t (ah.t (ak.t (am.t (aM.t a3.ext))))))))))))))
  refine zzb ?_
  have hcc := Nt.cmpg_y _ _ ai
  rw [Nt.erL_at xq] at hcc
  have hds := Nt.design_step (a := aa) (pl := aH) (like := (Nt.sgQ (Nt.gE (Nt.gX V) (Nt.gW V) (Nt.gY V) (Nt.pL V l) aa)) == (Nt.sgQ (Nt.eL V l))) ho hR xq xq hcc xq ay (fun h9 => aK xq) (by unfold Nt.fst1; rw [if_neg (by simpa using au)])
  have hds2 := hds.2
  refine sw_goto (mpg_seq (mpg_jump (m := _) (T := St.of 64 [(0, .v (x.v)), (4, .adr 4 0), (7, .v (.slice (some ⟨b, 0, none⟩) (D + 2) (D + 2)))] [(4, ⟨34, [.slice none 0 0, .bool false, .slice none 0 0, .slice none 0 0, .slice none 0 0]⟩)]) ?_ yk ⟨b, (Nt.exL l aa ((Nt.sgQ (Nt.gE (Nt.gX V) (Nt.gW V) (Nt.gY V) (Nt.pL V l) aa)) == (Nt.sgQ (Nt.eL V l))) aH), rfl, hds.1, rfl, eR64, aP⟩))
  omega
 have qhb47 := of_decide_eq_false ai
 refine zzs (zzp ?_)
 refine sq9 (zza 59 (.v (ap.v)) (zzi 60 (.v (aA.v)) ty32 zze (zzg 61 68 _ fun _ _ aU br => Post.mono (k_ratTrim br ((RatP.raw aE).ext (ac.t (ae.t (ad.t (ah.t aU))))) xq) ?_)))
 rintro _ u68 a8 ⟨aq, rfl, bB⟩
 refine zza 62 (.v (.slice (some ⟨b, 0, none⟩) (D + 2) (D + 2))) (zza 63 (.v (.agg #[ap.v, .bool aq.s, aq.m.v, aq.d.v, .slice (some ⟨b, 0, none⟩) (D + 2) (D + 2)])) (zzj ⟨34, [ap.v] ++ aq.cs ++ [.slice (some ⟨b, 0, none⟩) (D + 2) (D + 2)]⟩ ty34 ?_))
 refine zza 5 (zI 0) (zzc 64 [(4, .adr 4 0), (5, zI 0)] [(4, ⟨34, [ap.v] ++ aq.cs ++ [.slice (some ⟨b, 0, none⟩) (D + 2) (D + 2)]⟩)] (zzo (mpr_jump (ret0 [.agg #[ap.v, .bool aq.s, aq.m.v, aq.d.v, .slice (some ⟨b, 0, none⟩) (D + 2) (D + 2)], .int .i64 0] ⟨zzr ty34 zze, zzq, trivial⟩ fun u71 a5 => ?_))))
 have hde := Nt.design_end ho hR xq aC (by have h9 := Nt.cmpg_n _ _ ai; rw [Nt.erL_at xq] at h9; exact h9)
 have h8 := (bB.ext a5)
 rw [Nt.erL_at xq, hde.2] at h8
 exact ⟨ap, aq, b, l, rfl, (aw.ext (aj.t (an.t (af.t (ag.t (ac.t (ae.t (ad.t (ah.t (aU.t (a8.t a5))))))))))), h8, MutQ.slr (hm.ext (ao.t (ar.t (aj.t (an.t (af.t (ag.t (ac.t (ae.t (ad.t (ah.t (aU.t (a8.t a5))))))))))))), hde.1⟩
theorem k_exDesignE {u w : World} {D : Int} {x : Sl} {N : Nat} {V : List Rat} (d : Dat u w) (hg : GrN u x N V 1) (ho : Nt.GrOK V N) (hwr : Nt.wrE N D ≠ 0) : Calls Tryz.prog 13 #[x.v, .int .i64 D] w (Post u w fun v u' => v = .tuple #[.agg #[.slice none 0 0, .bool false, .slice none 0 0, .slice none 0 0, .slice none 0 0], .int .i64 (Nt.wrE N D)]) := by
 have hxn : x.n = N := hg.len
 have hN12 := ho.n12
 have hN1 := ho.n1
 refine zzm (args := [x.v, .int .i64 D]) Tryz.func13 rfl Tryz.ntmps13 (rs := [.cell 4 34, .tmp 5]) Tryz.results13 (le_b rfl) (le_b rfl) d ?_
 refine sq9 (zzk 4 ⟨34, [.slice none 0 0, .bool false, .slice none 0 0, .slice none 0 0, .slice none 0 0]⟩ (zza 5 (zI 0) (zzb (sw_scope2 (I := fun _ _ _ => False) (fun m S u1 u2 e h => h) xk ?_ ?_))))
 ·skip
  refine sq9 (zza 14 (.v (x.v)) (zza 15 (zI D) (zzg 16 59 _ fun _ _ ac aa => Post.mono (k_exWrong (D := D) aa (hg.ext ac) ho) ?_)))
  rintro _ u12 g13 rfl
  refine zza 6 (zI (Nt.wrE N D)) (zzb (sq9 (zza 17 (zI (Nt.wrE N D)) (zza 18 (zB ((Nt.wrE N D) != 0)) (zzb (zzu (b := (Nt.wrE N D) != 0) xk (fun hb => ?_) (fun hb => ?_)))))))
  ·clear hb
   refine sq9 (zza 19 (.v (.agg #[.slice none 0 0, .bool false, .slice none 0 0, .slice none 0 0, .slice none 0 0])) (zza 20 (zI (Nt.wrE N D)) (zzj ⟨34, [.slice none 0 0, .bool false, .slice none 0 0, .slice none 0 0, .slice none 0 0]⟩ ty34 ?_)))
   refine zza 5 (zI (Nt.wrE N D)) (zzb (zzo (zzw (mpr_into (ret0 [.agg #[.slice none 0 0, .bool false, .slice none 0 0, .slice none 0 0, .slice none 0 0], .int .i64 (Nt.wrE N D)] ⟨zzr ty34 zze, zzq, trivial⟩ fun u15 e16 => ?_)))))
   rfl
  exact absurd hb (by rw [show ((Nt.wrE N D) != 0) = true from (by simpa using hwr)]; decide)
 intro n S u h; exact h.elim
namespace Nt
def ChkOK (V : List Rat) (N D : Nat) (p : List Rat) (e : Rat) (L : List Int) : Prop := ∃ (l : List Nat) (a : Nat), L = inl l ∧ Rf N l (D + 1) ∧ (trimQ p).length ≤ D + 1 ∧ Gst (erL V p N) N a ∧ absQ (gE (gX V) (gW V) (gY V) p a) = e ∧ absQ (gE (gX V) (gW V) (gY V) p (l.getD 0 0)) = absQ (gE (gX V) (gW V) (gY V) p a) ∧ ∀ i, i < D + 2 → gE (gX V) (gW V) (gY V) p (l.getD i 0) = sg1 i * gE (gX V) (gW V) (gY V) p (l.getD 0 0)
section
variable {V : List Rat} {N D a i : Nat} {p : List Rat} {e : Rat} {L : List Int} {l : List Nat}
theorem chk_1 (h : ¬ (trimQ p).length ≤ D + 1) : ¬ ChkOK V N D p e L := fun ⟨_, _, _, _, h1, _⟩ => h h1
theorem chk_2 (h : ¬ L.length = D + 2) : ¬ ChkOK V N D p e L := fun ⟨l, _, h1, h2, _⟩ => h (by rw [h1, inl_len, h2.len])
theorem chk_3 (h : ¬ Up N L) : ¬ ChkOK V N D p e L := fun ⟨l, _, h1, h2, _⟩ => h (by rw [h1]; exact h2.up)
theorem chk_4 (hG : Gst (erL V p N) N a) (h : ¬ absQ (gE (gX V) (gW V) (gY V) p a) = e) : ¬ ChkOK V N D p e L := fun ⟨l, b, _, _, _, h4, h5, _⟩ => h (by rw [hG.uniq h4 (fun _ _ => rfl)]; exact h5)
theorem chk_5 (hG : Gst (erL V p N) N a) (hl : L = inl l) (h : ¬ absQ (gE (gX V) (gW V) (gY V) p (l.getD 0 0)) = absQ (gE (gX V) (gW V) (gY V) p a)) : ¬ ChkOK V N D p e L := fun ⟨m, b, h1, _, _, h4, _, h6, _⟩ => h (by
 have e1 : l = m := inl_inj (hl.symm.trans h1)
 subst e1
 rw [hG.uniq h4 (fun _ _ => rfl)]; exact h6)
theorem chk_6 (hl : L = inl l) (hi : i < D + 2) (h : ¬ gE (gX V) (gW V) (gY V) p (l.getD i 0) = sg1 i * gE (gX V) (gW V) (gY V) p (l.getD 0 0)) : ¬ ChkOK V N D p e L := fun ⟨m, b, h1, _, _, _, _, _, h7⟩ => h (by
 have e1 : l = m := inl_inj (hl.symm.trans h1)
 subst e1
 exact h7 i hi)
theorem sg1_n (i : Nat) (x : Rat) : -(sg1 i * x) = sg1 (i + 1) * x := by rw [sg1_s]; grind
theorem cmp_z {x y : Rat} (h : (cmpQ x y != (0 : Int)) = false) : x = y := by
 have h1 : (cmpQ x y == (0 : Int)) = true := by simpa using h
 rw [cmpQ_eq] at h1; exact of_decide_eq_true h1
theorem cmp_nz {x y : Rat} (h : (cmpQ x y != (0 : Int)) = true) : ¬ x = y := fun e => by
 have h1 : (cmpQ x y == (0 : Int)) = true := by rw [cmpQ_eq]; exact decide_eq_true e
 simp only [bne, h1] at h; cases h
end
end Nt
set_option maxHeartbeats 8000000 in
theorem k_exCheck {u w : World} {D : Nat} {y z : Sl} {r : RL} {p : List Rat} {e : Rat} {L : List Int} {K Ke M : Nat} {x : Sl} {N : Nat} {V : List Rat} (d : Dat u w) (hg : GrN u x N V 1) (ho : Nt.GrOK V N) (hy : PolV u y p K) (hr : RatV u r e Ke) (hz : SlR .i64 u z.a z.n z.c L) (hb : ∀ x ∈ L, -9223372036854775808 ≤ x ∧ x ≤ 9223372036854775807) (hl : p.length ≤ 60) (hB : 2 * (p.length * (K + 1) + 2) + K + 2 * p.length + 11 ≤ M) (hM : M ≤ 20000000) (hKe : Ke ≤ 20000000) (hD : D + 2 ≤ N) : Calls Tryz.prog 17 #[x.v, .int .i64 (D : Int), .agg #[.slice y.a y.n y.c, .bool r.s, .slice r.m.a r.m.n r.m.c, .slice r.d.a r.d.n r.d.c, .slice z.a z.n z.c]] w (Post u w fun v _ => (v = .int .i64 0 ∧ Nt.ChkOK V N D p e L) ∨ (v = .int .i64 22 ∧ ¬ Nt.ChkOK V N D p e L)) := by
 have hxn : x.n = N := hg.len
 have hN12 := ho.n12
 have hN1 := ho.n1
 have hyl := hy.len
 have htl := Nt.zzh p
 have hzn : L.length = z.n := hz.1
 have hzm : z.n ≤ maxLen := Nat.le_trans hz.2.1 hz.2.2.1
 unfold maxLen at hzm
 have hwr : Nt.wrE N (D : Int) = 0 := by unfold Nt.wrE; rw [if_neg xq, if_neg xq]
 refine zzm (args := [x.v, .int .i64 D, .agg #[y.v, .bool r.s, r.m.v, r.d.v, z.v]]) Tryz.func17 rfl Tryz.ntmps17 (rs := [.tmp 6]) Tryz.results17 (le_b rfl) (le_b rfl) d ?_
 refine sq9 (zzk 5 ⟨34, [y.v] ++ r.cs ++ [z.v]⟩ (zza 6 (zI 0) (zzb (zzd (sq9 (zza 14 (.v (x.v)) (zza 15 (zI D) (zzg 16 59 _ fun _ _ ag a5 => Post.mono (k_exWrong (D := (D : Int)) a5 (hg.ext ag) ho) ?_))))))))
 rintro _ u12 al rfl
 refine zza 7 (zI (Nt.wrE N (D : Int))) (zzb (sq9 (zza 17 (zI (Nt.wrE N (D : Int))) (zza 18 (zB ((Nt.wrE N (D : Int)) != 0)) (zzb (zzu (b := (Nt.wrE N (D : Int)) != 0) xk (fun hb => ?_) (fun hb => ?_)))))))
 ·exact absurd hb (by rw [show ((Nt.wrE N (D : Int)) != 0) = false from (by rw [hwr]; rfl)]; decide)
 clear hb
 refine zzs (zzp ?_)
 refine zzd (sq9 (zza 20 (.adr 5 0) (zzi 21 (.v (y.v)) ty27 zzl (zzg 22 76 _ fun _ _ aj bb => Post.mono (k_poDegree bb (hy.ext (ag.t (al.t aj))) xq xq) ?_))))
 rintro _ u16 ap rfl
 refine zza 23 (zI D) (zza 24 (zB (decide ((D : Int) < (((Nt.trimQ p).length : Int) - 1)))) (zzb (zzu (b := decide ((D : Int) < (((Nt.trimQ p).length : Int) - 1))) xk (fun ae => ?_) (fun ae => ?_))))
 ·have qhb19 := of_decide_eq_true ae
  refine sq9 (zza 6 (zI 22) (zzb (zzo (zzw (ret0 [.int .i64 22] ⟨zzq, trivial⟩ fun u20 e21 => ?_)))))
  exact .inr ⟨rfl, (Nt.chk_1 (by have h9 := of_decide_eq_true ae; omega))⟩
 have qhb19 := of_decide_eq_false ae
 refine zzs (zzp ?_)
 refine zzd (sq9 (zza 25 (.adr 5 4) (zzi 26 (.v (z.v)) ty22 zzl (zza 27 (zI z.n) (zza 28 (zI D) (zyq 29 (x := zI (IntKind.i64.wrap ((D : Int) + 2))) (zI (D + 2 : Nat)) (eqI xz) (zza 30 (zB ((z.n : Int) != ((D + 2 : Nat) : Int))) ?_)))))))
 rcases Bool.eq_false_or_eq_true ((z.n : Int) != ((D + 2 : Nat) : Int)) with hs22 | hs22
 ·refine zyq 31 (x := zB ((z.n : Int) != ((D + 2 : Nat) : Int))) (zB true) (by rw [hs22]) (zzn 32 (uw 6 false true 31) (zzn 33 (uw 6 false true 31) (zzn 34 (uw 6 false true 31) (zzn 35 (uw 6 false true 31) (zzn 36 (uw 6 false true 31) (zzn 37 (uw 6 false true 31) (zza 38 (zB true) (zzb (zyr xk (sq9 (zza 6 (zI 22) ?_)))))))))))
  refine zzb (zzo (zzw (ret0 [.int .i64 22] ⟨zzq, trivial⟩ fun u23 e24 => ?_)))
  exact .inr ⟨rfl, (Nt.chk_2 (fun e9 => by have h9 := hs22; rw [bne_iff_ne] at h9; exact h9 xq))⟩
 refine zyq 31 (x := zB ((z.n : Int) != ((D + 2 : Nat) : Int))) (zB false) (by rw [hs22]) (zza 32 (.adr 5 4) ?_ (hw := w1 6 false 31))
 refine zzi 33 (.v (z.v)) ty22 zzl ?_ (hw := w1 6 false 31)
 refine zza 34 (.v (x.v)) ?_ (hw := w1 6 false 31)
 refine zza 35 (zI x.n) ?_ (hw := w1 6 false 31)
 refine zzg 36 77 _ (fun _ _ ao ba => Post.mono (k_ascending (z := z) (N := (x.n : Int)) ba (hz.ext (ag.t (al.t (aj.t (ap.t ao))))) hb) ?_) (hw := w1 6 false 31)
 rintro _ u28 av ⟨an, rfl, ad⟩
 refine zza 37 (zB (!an)) ?_ (hw := w1 6 false 31)
 refine zza 38 (zB (!an)) (zzb (zzu (b := !an) xk (fun ax => ?_) (fun ax => ?_)))
 ·refine sq9 (zza 6 (zI 22) (zzb (zzo (zzw (ret0 [.int .i64 22] ⟨zzq, trivial⟩ fun u32 e33 => ?_)))))
  exact .inr ⟨rfl, (Nt.chk_3 (fun hu => by have h9 : an = false := (by simpa using ax); have h8 := ad.2 (by rw [hxn]; exact hu); rw [h9] at h8; exact absurd h8 yq))⟩
 refine zzs (zzp ?_)
 refine zzd ?_
 have hU : Nt.Up (N : Int) L := by rw [hxn] at ad; exact ad.1 (by simpa using ax)
 have hLn : L.length = D + 2 := by have h9 := hs22; simp only [bne_eq_false_iff_eq] at h9; omega
 have hdg : (Nt.trimQ p).length ≤ D + 1 := by have h9 := of_decide_eq_false ae; omega
 obtain ⟨l, hLl, hR⟩ := Nt.up_inl (n := D + 1) hU hLn
 have hzl := hz
 rw [hLl] at hzl
 have hlk : l.length = D + 2 := by have h9 := hR.len; omega
 have hlt : ∀ i, i < D + 2 → l.getD i 0 < N := fun i hi => hR.lt i xq
 have hlt0 := hlt 0 xq
 refine zzf (zza 39 (.v (x.v)) (zza 40 (.adr 5 0) (zzi 41 (.v (y.v)) ty27 zzl (zzg 42 62 _ fun _ _ aw a4 => Post.mono (k_errorsOf (M := M) a4 (hg.ext (ag.t (al.t (aj.t (ap.t (ao.t (av.t aw))))))) ho (hy.ext (ag.t (al.t (aj.t (ap.t (ao.t (av.t aw))))))) hl hB hM) ?_))))
 rintro _ u37 aH ⟨am, rfl, ac⟩
 refine zza 8 (.v (am.v)) (zzc 82 [(5, .adr 5 0), (8, .v (am.v))] [(5, ⟨34, [y.v] ++ r.cs ++ [z.v]⟩)] (sq9 (zza 44 (.v (am.v)) (zzg 45 63 _ fun _ _ af be => Post.mono (k_greatest (n := N) be (ac.ext af) Nt.erL_len xq xq xq) ?_))))
 rintro _ u42 ai ⟨aG, aq, rfl, aK, ah⟩
 have hgl41 := Nt.Gst.lt ah
 refine zza 43 (.v (.tuple #[aG.v, .int .i64 aq])) (zza 46 (.v (aG.v)) (zza 47 (zI aq) (zzk 9 ⟨32, zw3⟩ (zzj ⟨32, aG.cs⟩ ty32 ?_))))
 refine zza 10 (zI aq) (zzb (zzd (sq9 (zzi 48 (.v (aG.v)) ty32 zze (zza 49 (.adr 5 1) (zzi 50 (.v (r.v)) ty32 zze (zzg 51 78 _ fun _ _ aa bc => Post.mono (k_ratCompare bc ((RatP.raw aK).ext aa) (hr.ext (ag.t (al.t (aj.t (ap.t (ao.t (av.t (aw.t (aH.t (af.t (ai.t aa))))))))))) xq xq) ?_)))))))
 rintro _ u46 ak rfl
 refine zza 52 (zB ((Nt.cmpQ (Nt.absQ ((Nt.erL V p N).getD aq 0)) e) != 0)) (zzb (zzu (b := (Nt.cmpQ (Nt.absQ ((Nt.erL V p N).getD aq 0)) e) != 0) xk (fun az => ?_) (fun az => ?_)))
 ·refine sq9 (zza 6 (zI 22) (zzb (zzo (zzw (ret0 [.int .i64 22] ⟨zzq, trivial⟩ fun u50 e51 => ?_)))))
  exact .inr ⟨rfl, (Nt.chk_4 ah (by have h9 := Nt.cmp_nz az; rw [Nt.erL_at xq] at h9; exact h9))⟩
 refine zzs (zzp ?_)
 refine sq9 (zza 53 (.v (am.v)) (zza 54 (.adr 5 4) (zzi 55 (.v (z.v)) ty22 zzl ?_)))
 have aU : (Nt.inl l).length = z.n := ((hzl.ext (ag.t (al.t (aj.t (ap.t (ao.t (av.t (aw.t (aH.t (af.t (ai.t (aa.t ak.ext))))))))))))).1
 rw [Nt.inl_len] at aU
 obtain ⟨b52, aX, aQ, aM⟩ := ints_at (hzl.ext (ag.t (al.t (aj.t (ap.t (ao.t (av.t (aw.t (aH.t (af.t (ai.t (aa.t ak.ext)))))))))))) (i := 0) (by have h9 : 0 < l.length := xq; omega)
 rw [Nt.inl_at] at aM
 refine zya 56 (aX + 0 * 1) (n := z.n) (off := aX) (sz := 1) (i := 0) xq aQ xq (by first | omega | (have h9 : 0 < l.length := xq; omega)) sl22 (zyl 57 (.int .i64 (((l.getD 0 0) : Nat) : Int)) aM ty3 ?_)
 have hl53 := PolP.len (ac.ext (af.t (ai.t (aa.t ak.ext))))
 rw [Nt.erL_len] at hl53
 obtain ⟨aJ, b53, a2, aP, aT, aA⟩ := polp_at (ac.ext (af.t (ai.t (aa.t ak.ext)))) (i := (l.getD 0 0)) (by rw [Nt.erL_len]; omega)
 rw [Nt.erL_at xq] at aA
 refine zya 58 (a2 + (l.getD 0 0) * 3) (n := am.n) (off := a2) (sz := 3) (i := (((l.getD 0 0) : Nat) : Int)) xq aP xq xq sl26 (zym 59 aJ.cs aT ty32 (zzk 11 ⟨32, zw3⟩ (zzj ⟨32, aJ.cs⟩ ty32 ?_)))
 refine zzb (zzd (zzd (zzz [0, 1, 0, 7, 15] [(0, []), (2, []), (1, []), (3, []), (4, [])] xk xk (zzi 60 (.v (aJ.v)) ty32 zze (zzi 62 (.v (aG.v)) ty32 zze (zzg 61 65 _ fun _ _ ay bj => Post.mono (k_ratAbs bj ((RatP.raw aA).ext ay) xq) ?_))))))
 rintro _ u57 aD ⟨r55, rfl, a7⟩
 refine zzg 63 78 _ fun _ _ au bf => Post.mono (k_ratCompare bf (a7.ext au).raw ((RatP.raw aK).ext (aa.t (ak.t (ay.t (aD.t au))))) xq xq) ?_
 rintro _ bd aL rfl
 refine zza 64 (zB ((Nt.cmpQ (Nt.absQ (Nt.gE (Nt.gX V) (Nt.gW V) (Nt.gY V) p (l.getD 0 0))) (Nt.absQ ((Nt.erL V p N).getD aq 0))) != 0)) (zzb (zzu (b := (Nt.cmpQ (Nt.absQ (Nt.gE (Nt.gX V) (Nt.gW V) (Nt.gY V) p (l.getD 0 0))) (Nt.absQ ((Nt.erL V p N).getD aq 0))) != 0) xk (fun ar => ?_) (fun ar => ?_)))
 ·refine sq9 (zza 6 (zI 22) (zzb (zzo (zzw (ret0 [.int .i64 22] ⟨zzq, trivial⟩ fun u65 e66 => ?_)))))
  exact .inr ⟨rfl, (Nt.chk_5 ah hLl (by have h9 := Nt.cmp_nz ar; rw [Nt.erL_at xq] at h9; exact h9))⟩
 refine zzs (zzp ?_)
 refine zzd (sq9 (zza 65 (.adr 5 4) (zzi 66 (.v (z.v)) ty22 zzl (zza 67 (zI z.n) (zza 68 (zI 0) (zzc 82 [(8, .v (am.v)), (11, .adr 11 0), (66, .v (z.v)), (67, zI z.n), (68, zI 0)] [(11, ⟨32, aJ.cs⟩)] (zzt (zyn (I := fun aY S' u' => ∃ (i : Nat) (rd : RL), (aY = D + 2 - i) ∧ (i ≤ D + 2) ∧ (∀ j, j < i → Nt.gE (Nt.gX V) (Nt.gW V) (Nt.gY V) p (l.getD j 0) = Nt.sg1 j * Nt.gE (Nt.gX V) (Nt.gW V) (Nt.gY V) p (l.getD 0 0)) ∧ (S' = St.of 82 [(8, .v (am.v)), (11, .adr 11 0), (66, .v (z.v)), (67, zI z.n), (68, zI i)] [(11, ⟨32, rd.cs⟩)]) ∧ (Ext bd u') ∧ (RatV u' rd (Nt.sg1 i * Nt.gE (Nt.gX V) (Nt.gW V) (Nt.gY V) p (l.getD 0 0)) M)) (fun m S u1 u2 e h => by obtain ⟨i, rd, hm, p0, p1, hS, hE, f0⟩ := h; exact ⟨i, rd, hm, p0, p1, hS, hE.trans e, f0.ext e⟩) _ yk ⟨0, aJ, rfl, by omega, (fun j hj => absurd hj (Nat.not_lt_zero j)), rfl, (Ext.refl _), (by rw [show Nt.sg1 0 = 1 from rfl, Rat.one_mul]; exact RatV.more ((RatP.raw aA).ext (ay.t (aD.t (au.t aL.ext)))) xq)⟩ ?_))))))))
 rintro aY _ u67 ⟨i, rd, a8, hi, hal, rfl, aF, fd⟩
 refine sq9 (zza 69 (zB (decide ((i : Int) < (z.n : Int)))) (zzb (zzd (zzu (b := decide ((i : Int) < (z.n : Int))) xk (fun aC => ?_) (fun aC => ?_)))))
 ·have qhb68 := of_decide_eq_true aC
  refine zzs (zzp ?_)
  refine zzd (zzt (zzd ?_))
  have hlti := hlt i xq
  refine zzf ?_
  have aS : (Nt.inl l).length = z.n := ((hzl.ext (ag.t (al.t (aj.t (ap.t (ao.t (av.t (aw.t (aH.t (af.t (ai.t (aa.t (ak.t (ay.t (aD.t (au.t (aL.t aF)))))))))))))))))).1
  rw [Nt.inl_len] at aS
  obtain ⟨b69, a1, aR, aE⟩ := ints_at (hzl.ext (ag.t (al.t (aj.t (ap.t (ao.t (av.t (aw.t (aH.t (af.t (ai.t (aa.t (ak.t (ay.t (aD.t (au.t (aL.t aF))))))))))))))))) (i := i) (by have h9 : i < l.length := xq; omega)
  rw [Nt.inl_at] at aE
  refine zya 70 (a1 + i * 1) (n := z.n) (off := a1) (sz := 1) (i := (i : Int)) xq aR xq (by first | omega | (have h9 : i < l.length := xq; omega)) sl22 (zyl 71 (.int .i64 (((l.getD i 0) : Nat) : Int)) aE ty3 (zza 13 (zI (((l.getD i 0) : Nat) : Int)) (zzb (zzd (zzd (zzz [0, 0, 3, 7, 0, 31, 63] [(0, []), (1, []), (2, []), (3, []), (4, []), (5, []), (6, [])] xk xk (zza 72 (.v (am.v)) (zza 73 (zI (((l.getD i 0) : Nat) : Int)) ?_))))))))
  have hl70 := PolP.len (ac.ext (af.t (ai.t (aa.t (ak.t (ay.t (aD.t (au.t (aL.t aF)))))))))
  rw [Nt.erL_len] at hl70
  obtain ⟨a6, b70, aW, aV, aO, aI⟩ := polp_at (ac.ext (af.t (ai.t (aa.t (ak.t (ay.t (aD.t (au.t (aL.t aF))))))))) (i := (l.getD i 0)) (by rw [Nt.erL_len]; omega)
  rw [Nt.erL_at xq] at aI
  refine zya 74 (aW + (l.getD i 0) * 3) (n := am.n) (off := aW) (sz := 3) (i := (((l.getD i 0) : Nat) : Int)) xq aV xq xq sl26 (zym 75 a6.cs aO ty32 (zzi 76 (.v (rd.v)) ty32 zze (zzg 77 78 _ fun _ _ aN bh => Post.mono (k_ratCompare bh ((RatP.raw aI).ext aN) (fd.ext aN) xq xq) ?_)))
  rintro _ u72 aZ rfl
  refine zza 78 (zB ((Nt.cmpQ (Nt.gE (Nt.gX V) (Nt.gW V) (Nt.gY V) p (l.getD i 0)) (Nt.sg1 i * Nt.gE (Nt.gX V) (Nt.gW V) (Nt.gY V) p (l.getD 0 0))) != 0)) (zzb (zzu (b := (Nt.cmpQ (Nt.gE (Nt.gX V) (Nt.gW V) (Nt.gY V) p (l.getD i 0)) (Nt.sg1 i * Nt.gE (Nt.gX V) (Nt.gW V) (Nt.gY V) p (l.getD 0 0))) != 0) xk (fun aB => ?_) (fun aB => ?_)))
  ·refine sq9 (zza 6 (zI 22) (zzb (zzo (zzw (zyu (zzw (zyt (zyu (zzw (ret0 [.int .i64 22] ⟨zzq, trivial⟩ fun u76 e77 => ?_))))))))))
   exact .inr ⟨rfl, (Nt.chk_6 hLl (i := i) xq (Nt.cmp_nz aB))⟩
  refine zzs (zzp ?_)
  refine zzf (zzi 79 (.v (rd.v)) ty32 zze (zzg 80 79 _ fun _ _ a0 bi => Post.mono (k_ratNeg bi (fd.ext (aN.t (aZ.t a0))) xq) ?_))
  rintro _ u81 a9 ⟨a3, rfl, bg⟩
  refine zzj ⟨32, a3.cs⟩ ty32 ?_
  refine zzx ?_
  refine zzp (zzf (zyq 81 (x := zI (IntKind.i64.wrap ((i : Int) + 1))) (zI (i + 1 : Nat)) (eqI xz) (zza 68 (zI (i + 1 : Nat)) (zzx ?_))))
  refine ⟨_, ?_, _, by exact zzv _ _ _, i + 1, a3, rfl, by omega, (fun j hj => by by_cases e9 : j = i; (rw [e9]; exact Nt.cmp_z aB); exact hal j xq), rfl, (aF.t (aN.t (aZ.t (a0.t a9.ext)))), (by rw [← Nt.sg1_n]; exact RatV.more (RatN.raw bg) xq)⟩
  omega
 have qhb68 := of_decide_eq_false aC
 refine zyc (zzp (sq9 (zza 6 (zI 0) (zzb (zzo (ret0 [.int .i64 0] ⟨zzq, trivial⟩ fun u84 e85 => ?_))))))
 obtain rfl : i = D + 2 := by omega
 exact .inl ⟨rfl, l, aq, hLl, hR, hdg, ah, (by have h9 := Nt.cmp_z az; rw [Nt.erL_at xq] at h9; exact h9), (by have h9 := Nt.cmp_z ar; rw [Nt.erL_at xq] at h9; exact h9), fun i hi => hal i hi⟩
namespace Nt
open Pol
section
variable {V : List Rat} {N n D : Nat} {p q : List Rat} {l m : List Nat}
theorem gst_ex (E : List Rat) : ∀ n, 1 ≤ n → ∃ a, Gst E n a
 | 0, h => absurd h xq
 | n + 1, _ => by
  by_cases h : n = 0
  ·subst h; exact ⟨0, gst_1 E⟩
  obtain ⟨a, ha⟩ := gst_ex E n xq
  by_cases c : ab (E.getD a 0) < ab (E.getD n 0)
  ·exact ⟨n, ha.up c⟩
  exact ⟨a, ha.keep c⟩
theorem bst_max (g : GrOK V N) (h : Bst (gX V) (gW V) (gY V) N n p l) {a : Nat} (hG : Gst (erL V p N) N a) : absQ (gE (gX V) (gW V) (gY V) p a) = absQ (eL V l) := by
 have h1 := h.max a hG.lt
 have h2 := h.at_ab g.gr 0 xq
 have h3 := hG.le (l.getD 0 0) (h.rf.lt 0 xq)
 rw [erL_at (h.rf.lt 0 xq), erL_at hG.lt] at h3
 rw [ab_eq, ab_eq]
 have e : eL V l = rE (gX V) (gW V) (gY V) l := rfl
 rw [e]; grind
theorem chk_bst (g : GrOK V N) (h : Bst (gX V) (gW V) (gY V) N (D + 1) p l) {e : Rat} (he : e = absQ (eL V l)) : ChkOK V N D p e (inl l) := by
 obtain ⟨a, ha⟩ := gst_ex (erL V p N) N g.n1
 refine ⟨l, a, rfl, h.rf, Nat.le_trans (zzh p) h.len, ha, by rw [he]; exact bst_max g h ha, ?_, fun i hi => ?_⟩
 ·rw [bst_max g h ha, ab_eq, ab_eq]; exact h.at_ab g.gr 0 xq
 rw [h.at g.gr i xq, h.at g.gr 0 xq]
 have : sg1 0 = 1 := rfl
 rw [this]; grind
theorem pL_trim (h : Rf N l n) (h1 : 1 ≤ n) : trimQ (pL V l) = pL V l := by rw [lvl_pL h]; exact trim_nwL h1
theorem bst_list (g : GrOK V N) (h : Bst (gX V) (gW V) (gY V) N n p l) (k : Bst (gX V) (gW V) (gY V) N n q m) (hp : trimQ p = p) (hq : trimQ q = q) : p = q := by
 rw [← hp, ← hq]; exact trim_ext (fun i => (h.same k g.gr).2 i)
theorem bst_err (g : GrOK V N) (h : Bst (gX V) (gW V) (gY V) N n p l) (k : Bst (gX V) (gW V) (gY V) N n q m) : absQ (eL V l) = absQ (eL V m) := (h.same k g.gr).1
end
def awV : List Rat := [((-1 : Int) : Rat), ((1 : Int) : Rat), ((1 : Int) : Rat), ((0 : Int) : Rat), ((0 : Int) : Rat), ((1 : Int) : Rat), ((1 : Int) : Rat), ((1 : Int) : Rat), ((1 : Int) : Rat)]
theorem awOK : GrOK awV 3 := by
 refine ⟨by decide, by decide, rfl, fun i hi => ?_, fun i hi => ?_, fun i hi => ⟨1, 1, ?_, by decide, by decide, by decide, by decide⟩, fun a b hab hb => ?_⟩
 ·rcases (by omega : i = 0 ∨ i = 1 ∨ i = 2) with rfl | rfl | rfl
  ·exact ⟨-12, by decide +kernel, by decide, by decide⟩
  ·exact ⟨0, by decide +kernel, by decide, by decide⟩
  exact ⟨12, by decide +kernel, by decide, by decide⟩
 ·rcases (by omega : i = 0 ∨ i = 1 ∨ i = 2) with rfl | rfl | rfl
  ·exact ⟨840, by decide +kernel, by decide⟩
  ·exact ⟨0, by decide +kernel, by decide⟩
  exact ⟨840, by decide +kernel, by decide⟩
 ·rcases (by omega : i = 0 ∨ i = 1 ∨ i = 2) with rfl | rfl | rfl <;> decide +kernel
 rcases (by omega : a = 0 ∧ b = 1 ∨ a = 0 ∧ b = 2 ∨ a = 1 ∧ b = 2) with ⟨rfl, rfl⟩ | ⟨rfl, rfl⟩ | ⟨rfl, rfl⟩ <;> decide +kernel
theorem awRf : Rf 3 [0, 1, 2] 2 := ⟨rfl, fun i j hij hj => by
 rcases (by omega : i = 0 ∧ j = 1 ∨ i = 0 ∧ j = 2 ∨ i = 1 ∧ j = 2) with ⟨rfl, rfl⟩ | ⟨rfl, rfl⟩ | ⟨rfl, rfl⟩ <;> decide, fun i hi => by
 rcases (by omega : i = 0 ∨ i = 1 ∨ i = 2) with rfl | rfl | rfl <;> decide⟩
theorem aw_e : eL awV [0, 1, 2] = ((1 : Int) : Rat) / ((2 : Int) : Rat) := by decide +kernel
theorem aw_best : Bst (gX awV) (gW awV) (gY awV) 3 2 [((1 : Int) : Rat) / ((2 : Int) : Rat)] [0, 1, 2] := by
 refine ⟨awRf, by decide, fun a ha => ?_⟩
 rcases (by omega : a = 0 ∨ a = 1 ∨ a = 2) with rfl | rfl | rfl <;> decide +kernel
theorem aw_lev : Bst (gX awV) (gW awV) (gY awV) 3 2 (pL awV [0, 1, 2]) [0, 1, 2] := by
 refine ⟨awRf, lvl_len awRf, fun a ha => ?_⟩
 have h9 : a = [0, 1, 2].getD a 0 := by rcases (by omega : a = 0 ∨ a = 1 ∨ a = 2) with rfl | rfl | rfl <;> rfl
 rw [h9, lvl_at awOK awRf yq xq, ab_sg]
 exact Rat.le_refl
theorem aw_half : trimQ [((1 : Int) : Rat) / ((2 : Int) : Rat)] = [((1 : Int) : Rat) / ((2 : Int) : Rat)] := by decide +kernel
theorem aw_p {l : List Nat} (h : Bst (gX awV) (gW awV) (gY awV) 3 2 (pL awV l) l) : pL awV l = [((1 : Int) : Rat) / ((2 : Int) : Rat)] := bst_list awOK h aw_best (pL_trim h.rf yq) aw_half
theorem aw_x {l : List Nat} (h : Bst (gX awV) (gW awV) (gY awV) 3 2 (pL awV l) l) : absQ (eL awV l) = ((1 : Int) : Rat) / ((2 : Int) : Rat) := by
 rw [bst_err awOK h aw_best, aw_e]; decide +kernel
end Nt
theorem k_exCheckB {u w : World} {D : Nat} {y z : Sl} {r : RL} {p : List Rat} {e : Rat} {l : List Nat} {K Ke M : Nat} {x : Sl} {N : Nat} {V : List Rat} (d : Dat u w) (hg : GrN u x N V 1) (ho : Nt.GrOK V N) (hy : PolV u y p K) (hr : RatV u r e Ke) (hz : SlR .i64 u z.a z.n z.c (Nt.inl l)) (hl : p.length ≤ 60) (hB : 2 * (p.length * (K + 1) + 2) + K + 2 * p.length + 11 ≤ M) (hM : M ≤ 20000000) (hKe : Ke ≤ 20000000) (hD : D + 2 ≤ N) (hb : Nt.Bst (Nt.gX V) (Nt.gW V) (Nt.gY V) N (D + 1) p l) (he : e = Nt.absQ (Nt.eL V l)) : Calls Tryz.prog 17 #[x.v, .int .i64 (D : Int), .agg #[.slice y.a y.n y.c, .bool r.s, .slice r.m.a r.m.n r.m.c, .slice r.d.a r.d.n r.d.c, .slice z.a z.n z.c]] w (Post u w fun v _ => v = .int .i64 0) :=
 Post.mono (k_exCheck d hg ho hy hr hz (Nt.inl_bd hb.rf.mem (by have := ho.n12; omega)) hl hB hM hKe hD) fun v u' _ h => h.elim (fun h => h.1) (fun h => absurd (Nt.chk_bst ho hb he) h.2)
theorem wf_u8f {z : Int} (h : (Lit.int .u8 z).wf = true) : 0 ≤ z ∧ z ≤ 255 := by
 simp [Lit.wf, IntKind.min, IntKind.max, IntKind.bits, IntKind.signed] at h
 omega
theorem Nt.rs_small {z : Int} (h : z.natAbs ≤ 1) : Nt.rs (z : Rat) ≤ 1 := Nt.rs_int (K := 1) (Nat.le_trans (Nt.dl_mono h) (Nat.le_of_eq Nt.dl_one)) (Nat.le_refl 1)
theorem Nt.wrE_1 {N D : Nat} (h : ¬ D + 2 ≤ N) (hD : D ≤ 50) : Nt.wrE N (D : Int) = 1 := by unfold Nt.wrE; rw [if_neg xq, if_pos xq]
set_option maxHeartbeats 4000000 in
theorem k_awake15 {u w : World} (d : Dat u w) : Calls Tryz.prog 18 #[] w (Post u w fun v _ => v = .bool true) := by
 refine zzm (args := []) Tryz.func18 rfl Tryz.ntmps18 (rs := [.tmp 0]) Tryz.results18 (le_b rfl) (le_b rfl) d ?_
 refine sq9 (zza 0 (zB false) (zzb (sq9 (zzg 11 30 _ fun _ _ _ ba => Post.mono (k_rqOf ba (z := 1) xq xq) ?_))))
 rintro _ u14 g15 ⟨aa, rfl, aD⟩
 refine zzk 1 ⟨32, zw3⟩ (zzj ⟨32, aa.cs⟩ ty32 ?_)
 refine zzb (zzd (zzz [0, 0, 0, 7, 1, 17, 0, 113, 0, 0, 0, 1792, 4095, 8191] [(1, []), (2, []), (6, []), (8, []), (9, []), (10, []), (11, []), (0, []), (3, []), (4, []), (5, []), (7, []), (12, []), (13, [])] xk xk (zzi 13 (.v (aa.v)) ty32 zze (zzi 14 (.v (aa.v)) ty32 zze (zzi 18 (.v (aa.v)) ty32 zze (zzi 20 (.v (aa.v)) ty32 zze (zzi 21 (.v (aa.v)) ty32 zze (zzi 22 (.v (aa.v)) ty32 zze (zza 23 (.v (.agg #[.bool aa.s, aa.m.v, aa.d.v, .bool aa.s, aa.m.v, aa.d.v, .bool aa.s, aa.m.v, aa.d.v])) (zzg 12 30 _ fun _ _ aG bl => Post.mono (k_rqOf bl (z := (-1)) xq xq) ?_))))))))))
 rintro _ u20 aH ⟨aM, rfl, a8⟩
 refine zza 15 (.v (.agg #[.bool aM.s, aM.m.v, aM.d.v, .bool aa.s, aa.m.v, aa.d.v, .bool aa.s, aa.m.v, aa.d.v])) (zzg 16 30 _ fun _ _ ax a6 => Post.mono (k_rqOf a6 (z := 0) xq xq) ?_)
 rintro _ u26 aB ⟨aE, rfl, a5⟩
 refine zzg 17 30 _ fun _ _ aw a4 => Post.mono (k_rqOf a4 (z := 0) xq xq) ?_
 rintro _ u32 ap ⟨aL, rfl, bs⟩
 refine zza 19 (.v (.agg #[.bool aE.s, aE.m.v, aE.d.v, .bool aL.s, aL.m.v, aL.d.v, .bool aa.s, aa.m.v, aa.d.v])) (sy_lit 24 ⟨56, aM.cs ++ aa.cs ++ aa.cs ++ aE.cs ++ aL.cs ++ aa.cs ++ aa.cs ++ aa.cs ++ aa.cs⟩ 3 ?_)
 refine zza 2 (.slc 24 0 3 3) (zzb (zzd (zyp (r := 2) (t := 24) [2, 24] xw xk (by rfl) (by rfl) xk (fun aF a3 ah a9 aW => ?_))))
 have hAw : RatsN a3 [aM, aa, aa, aE, aL, aa, aa, aa, aa] Nt.awV 1 := (RatsN.snoc (RatsN.snoc (RatsN.snoc (RatsN.snoc (RatsN.snoc (rats4 (RatN.fit (K := 2) (a8.ext (ax.t (aB.t (aw.t (ap.t ah))))) (Nt.rs_small yq)) (RatN.fit (K := 2) (aD.ext (aG.t (aH.t (ax.t (aB.t (aw.t (ap.t ah))))))) (Nt.rs_small yq)) (RatN.fit (K := 2) (aD.ext (aG.t (aH.t (ax.t (aB.t (aw.t (ap.t ah))))))) (Nt.rs_small yq)) (RatN.fit (K := 2) (a5.ext (aw.t (ap.t ah))) (Nt.rs_small yq))) (RatN.fit (K := 2) (bs.ext ah) (Nt.rs_small yq))) (RatN.fit (K := 2) (aD.ext (aG.t (aH.t (ax.t (aB.t (aw.t (ap.t ah))))))) (Nt.rs_small yq))) (RatN.fit (K := 2) (aD.ext (aG.t (aH.t (ax.t (aB.t (aw.t (ap.t ah))))))) (Nt.rs_small yq))) (RatN.fit (K := 2) (aD.ext (aG.t (aH.t (ax.t (aB.t (aw.t (ap.t ah))))))) (Nt.rs_small yq))) (RatN.fit (K := 2) (aD.ext (aG.t (aH.t (ax.t (aB.t (aw.t (ap.t ah))))))) (Nt.rs_small yq)))
 have hGw : GrN a3 ⟨some ⟨aF, 0, none⟩, 3, 3⟩ 3 Nt.awV 1 := gr_lit (L := [aM, aa, aa, aE, aL, aa, aa, aa, aa]) aW hAw rfl yq
 refine zzf (zza 26 (.v (.slice (some ⟨aF, 0, none⟩) 3 3)) (zzg 27 13 _ fun _ _ aR bj => Post.mono (k_exDesign (D := 1) bj (hGw.ext aR) Nt.awOK yq) ?_))
 rintro _ u42 aX ⟨ay, ac, az, aJ, rfl, aA, aQ, a0, ak⟩
 have hly41 := aA.len
 have hlly41 := Nt.Bst.len ak
 refine zza 25 (.v (.tuple #[.agg #[ay.v, .bool ac.s, ac.m.v, ac.d.v, .slice (some ⟨az, 0, none⟩) (1 + 2) (1 + 2)], .int .i64 0])) (zza 28 (.v (.agg #[ay.v, .bool ac.s, ac.m.v, ac.d.v, .slice (some ⟨az, 0, none⟩) (1 + 2) (1 + 2)])) (zza 29 (zI 0) (zzk 3 ⟨34, [.slice none 0 0, .bool false, .slice none 0 0, .slice none 0 0, .slice none 0 0]⟩ (zzj ⟨34, [ay.v] ++ ac.cs ++ [.slice (some ⟨az, 0, none⟩) (1 + 2) (1 + 2)]⟩ ty34 ?_))))
 refine zza 4 (zI 0) (zzb (sq9 (zza 31 (.v (.slice (some ⟨aF, 0, none⟩) 3 3)) (zxx 32 ⟨3, [.int .i64 0, .int .i64 1, .int .i64 2]⟩ 3 (fun aU br an bp => ?_)))))
 have aY : SlR .i64 br ((⟨some ⟨aU, 0, none⟩, 3, 3⟩ : Sl)).a ((⟨some ⟨aU, 0, none⟩, 3, 3⟩ : Sl)).n ((⟨some ⟨aU, 0, none⟩, 3, 3⟩ : Sl)).c (Nt.inl [0, 1, 2]) := ints_data bp rfl rfl (Nat.le_refl _) (by show 3 ≤ maxLen; unfold maxLen; omega)
 refine zzg 33 25 _ fun _ _ aj bi => Post.mono (k_exLevelR (z := (⟨some ⟨aU, 0, none⟩, 3, 3⟩ : Sl)) (n := 2) bi (hGw.ext (aR.t (aX.t (an.trans aj)))) Nt.awOK (aY.ext aj) Nt.awRf xq) ?_
 rintro _ u52 aC ⟨aO, aN, rfl, aP, aZ⟩
 have hly51 := aP.len
 have hlly51 := Nt.lvl_len (V := Nt.awV) Nt.awRf
 refine zza 30 (.v (.tuple #[aO.v, aN.v, .int .i64 0])) (zza 34 (.v (aO.v)) (zza 35 (.v (aN.v)) (zza 36 (zI 0) (zzk 6 ⟨32, zw3⟩ (zza 5 (.v (aO.v)) (zzj ⟨32, aN.cs⟩ ty32 ?_))))))
 refine zza 7 (zI 0) (zzc 89 [(2, .v (.slice (some ⟨aF, 0, none⟩) 3 3)), (3, .adr 3 0), (4, zI 0), (5, .v (aO.v)), (6, .adr 6 0), (7, zI 0)] [(3, ⟨34, [ay.v] ++ ac.cs ++ [.slice (some ⟨az, 0, none⟩) (1 + 2) (1 + 2)]⟩), (6, ⟨32, aN.cs⟩)] (sq9 (zza 38 (.v (.slice (some ⟨aF, 0, none⟩) 3 3)) (zzg 39 13 _ fun _ _ al bb => Post.mono (k_exDesignE (D := (2 : Nat)) bb (hGw.ext (aR.t (aX.t (an.t (aj.t (aC.t al)))))) Nt.awOK yq) ?_))))
 rintro _ u56 ao rfl
 refine zza 37 (.v (.tuple #[.agg #[.slice none 0 0, .bool false, .slice none 0 0, .slice none 0 0, .slice none 0 0], .int .i64 (Nt.wrE 3 2)])) (zza 40 (.v (.agg #[.slice none 0 0, .bool false, .slice none 0 0, .slice none 0 0, .slice none 0 0])) (zza 41 (zI (Nt.wrE 3 2)) (zzk 8 ⟨34, [.slice none 0 0, .bool false, .slice none 0 0, .slice none 0 0, .slice none 0 0]⟩ (zzj ⟨34, [.slice none 0 0, .bool false, .slice none 0 0, .slice none 0 0, .slice none 0 0]⟩ ty34 ?_))))
 refine zza 9 (zI (Nt.wrE 3 2)) (zzb (sq9 (zzg 42 23 _ fun _ _ am bf => Post.mono (k_rqFrac bf (a := 1) (b := 2) xq xq xq xq) ?_)))
 rintro _ u62 au ⟨ai, rfl, aT⟩
 refine zzk 10 ⟨32, zw3⟩ (zzj ⟨32, ai.cs⟩ ty32 ?_)
 refine zzb (sq9 (zza 43 (zI 0) (zza 44 (zB true) (zza 45 (zB true) (zza 46 (zI 0) ?_ (hw := w1 2 true 45))))))
 refine zza 47 (zB true) ?_ (hw := w1 2 true 45)
 refine zza 48 (zB true) (zza 49 (zB true) (zza 50 (zI (Nt.wrE 3 2)) ?_ (hw := w1 6 true 49)))
 refine zza 51 (zB ((Nt.wrE 3 2) == 1)) ?_ (hw := w1 6 true 49)
 refine zza 52 (zB ((Nt.wrE 3 2) == 1)) (zyq 53 (x := zB ((Nt.wrE 3 2) == 1)) (zB true) (by rw [show ((Nt.wrE 3 2) == 1) = true from yq]) (zza 54 (.adr 3 0) ?_ (hw := w1 10 true 53)))
 refine zzi 55 (.v (ay.v)) ty27 zzl ?_ (hw := w1 10 true 53)
 refine zzi 56 (.v (ai.v)) ty32 zze ?_ (hw := w1 10 true 53)
 refine zxx 57 ⟨32, ai.cs⟩ 1 (fun a7 bt ad bg => ?_) (hw := w1 10 true 53)
 have a2 : PolN bt (⟨some ⟨a7, 0, none⟩, 1, 1⟩ : Sl) [(((1 : Int) : Rat) / ((2 : Int) : Rat))] 3 := pol_lit (L := [ai]) bg (rats1 (aT.ext ad)) rfl yq
 refine zzg 58 15 _ (fun _ _ ae bo => Post.mono (k_r5Equal bo (aA.ext (an.t (aj.t (aC.t (al.t (ao.t (am.t (au.t (ad.trans ae))))))))) (a2.ext ae) xj zq) ?_) (hw := w1 10 true 53)
 rintro _ u72 af rfl
 refine zza 59 (zB (decide ((Nt.pL Nt.awV aJ) = [(((1 : Int) : Rat) / ((2 : Int) : Rat))]))) (zyq 60 (x := zB (decide ((Nt.pL Nt.awV aJ) = [(((1 : Int) : Rat) / ((2 : Int) : Rat))]))) (zB true) (by rw [show (decide ((Nt.pL Nt.awV aJ) = [(((1 : Int) : Rat) / ((2 : Int) : Rat))])) = true from (decide_eq_true (Nt.aw_p ak))]) (zza 61 (.adr 3 1) ?_ (hw := w1 17 true 60)))
 refine zzi 62 (.v (ac.v)) ty32 zze ?_ (hw := w1 17 true 60)
 refine zzi 63 (.v (ai.v)) ty32 zze ?_ (hw := w1 17 true 60)
 refine zzg 64 16 _ (fun _ _ ag bh => Post.mono (k_rqSame bh (aQ.ext (an.t (aj.t (aC.t (al.t (ao.t (am.t (au.t (ad.t (ae.t (af.t ag))))))))))) (aT.ext (ad.t (ae.t (af.t ag))))) ?_) (hw := w1 17 true 60)
 rintro _ u77 aq rfl
 refine zza 65 (zB (decide ((Nt.absQ (Nt.eL Nt.awV aJ)) = (((1 : Int) : Rat) / ((2 : Int) : Rat))))) (zyq 66 (x := zB (decide ((Nt.absQ (Nt.eL Nt.awV aJ)) = (((1 : Int) : Rat) / ((2 : Int) : Rat))))) (zB true) (by rw [show (decide ((Nt.absQ (Nt.eL Nt.awV aJ)) = (((1 : Int) : Rat) / ((2 : Int) : Rat)))) = true from (decide_eq_true (Nt.aw_x ak))]) (zza 67 (.adr 3 4) ?_ (hw := w1 23 true 66)))
 refine zzi 68 (.v (.slice (some ⟨az, 0, none⟩) (1 + 2) (1 + 2))) ty22 zzl ?_ (hw := w1 23 true 66)
 refine zza 69 (zI (1 + 2 : Nat)) ?_ (hw := w1 23 true 66)
 refine zza 70 (zB (((1 + 2 : Nat) : Int) == 3)) ?_ (hw := w1 23 true 66)
 refine zza 71 (zB (((1 + 2 : Nat) : Int) == 3)) (zyq 72 (x := zB (((1 + 2 : Nat) : Int) == 3)) (zB true) (by rw [show (((1 + 2 : Nat) : Int) == 3) = true from yq]) (zza 73 (.v (aO.v)) ?_ (hw := w1 29 true 72)))
 refine zzi 74 (.v (ai.v)) ty32 zze ?_ (hw := w1 29 true 72)
 refine zxx 75 ⟨32, ai.cs⟩ 1 (fun be bk ar bd => ?_) (hw := w1 29 true 72)
 have a1 : PolN bk (⟨some ⟨be, 0, none⟩, 1, 1⟩ : Sl) [(((1 : Int) : Rat) / ((2 : Int) : Rat))] 3 := pol_lit (L := [ai]) bd (rats1 (aT.ext (ad.t (ae.t (af.t (ag.t (aq.t ar))))))) rfl yq
 refine zzg 76 15 _ (fun _ _ av bq => Post.mono (k_r5Equal bq (aP.ext (al.t (ao.t (am.t (au.t (ad.t (ae.t (af.t (ag.t (aq.t (ar.trans av))))))))))) (a1.ext av) xj zq) ?_) (hw := w1 29 true 72)
 rintro _ u88 aI rfl
 refine zza 77 (zB (decide ((Nt.pL Nt.awV ([0, 1, 2])) = [(((1 : Int) : Rat) / ((2 : Int) : Rat))]))) (zyq 78 (x := zB (decide ((Nt.pL Nt.awV ([0, 1, 2])) = [(((1 : Int) : Rat) / ((2 : Int) : Rat))]))) (zB true) (by rw [show (decide ((Nt.pL Nt.awV ([0, 1, 2])) = [(((1 : Int) : Rat) / ((2 : Int) : Rat))])) = true from (decide_eq_true (Nt.aw_p Nt.aw_lev))]) (zzi 79 (.v (aN.v)) ty32 zze ?_ (hw := w1 35 true 78)))
 refine zzi 80 (.v (ai.v)) ty32 zze ?_ (hw := w1 35 true 78)
 refine zzg 81 16 _ (fun _ _ aK bu => Post.mono (k_rqSame bu (aZ.ext (al.t (ao.t (am.t (au.t (ad.t (ae.t (af.t (ag.t (aq.t (ar.t (av.t (aI.t aK))))))))))))) (aT.ext (ad.t (ae.t (af.t (ag.t (aq.t (ar.t (av.t (aI.t aK)))))))))) ?_) (hw := w1 35 true 78)
 rintro _ u93 aS rfl
 refine zza 82 (zB (decide ((Nt.eL Nt.awV ([0, 1, 2])) = (((1 : Int) : Rat) / ((2 : Int) : Rat))))) (zyq 83 (x := zB (decide ((Nt.eL Nt.awV ([0, 1, 2])) = (((1 : Int) : Rat) / ((2 : Int) : Rat))))) (zB true) (by rw [show (decide ((Nt.eL Nt.awV ([0, 1, 2])) = (((1 : Int) : Rat) / ((2 : Int) : Rat)))) = true from (decide_eq_true Nt.aw_e)]) (zza 84 (.v (.slice (some ⟨aF, 0, none⟩) 3 3)) ?_ (hw := w1 40 true 83)))
 refine zzi 85 (.v (.agg #[ay.v, .bool ac.s, ac.m.v, ac.d.v, .slice (some ⟨az, 0, none⟩) (1 + 2) (1 + 2)])) ty34 zze ?_ (hw := w1 40 true 83)
 refine zzg 86 17 _ (fun _ _ aV bc => Post.mono (k_exCheckB (D := 1) (y := ay) (z := (⟨some ⟨az, 0, none⟩, 1 + 2, 1 + 2⟩ : Sl)) (r := ac) (M := 1400000) bc (hGw.ext (aR.t (aX.t (an.t (aj.t (aC.t (al.t (ao.t (am.t (au.t (ad.t (ae.t (af.t (ag.t (aq.t (ar.t (av.t (aI.t (aK.t (aS.t aV)))))))))))))))))))) Nt.awOK (aA.ext (an.t (aj.t (aC.t (al.t (ao.t (am.t (au.t (ad.t (ae.t (af.t (ag.t (aq.t (ar.t (av.t (aI.t (aK.t (aS.t aV)))))))))))))))))).raw (aQ.ext (an.t (aj.t (aC.t (al.t (ao.t (am.t (au.t (ad.t (ae.t (af.t (ag.t (aq.t (ar.t (av.t (aI.t (aK.t (aS.t aV)))))))))))))))))).raw (a0.ext (an.t (aj.t (aC.t (al.t (ao.t (am.t (au.t (ad.t (ae.t (af.t (ag.t (aq.t (ar.t (av.t (aI.t (aK.t (aS.t aV)))))))))))))))))) xq xq yq xq yq ak rfl) ?_) (hw := w1 40 true 83)
 rintro _ u98 g99 rfl
 refine zza 87 (zB true) ?_ (hw := w1 40 true 83)
 refine zza 88 (zB true) (zza 0 (zB true) (zzc 89 [(0, zB true)] [] (zzo (ret0 [.bool true] ⟨zzq, trivial⟩ fun bm bn => ?_))))
 rfl
namespace Nt
section
variable {V : List Rat} {N n a : Nat} {p q : List Rat} {l : List Nat}
theorem gE_trim (h : trimQ q = trimQ p) (a : Nat) : gE (gX V) (gW V) (gY V) q a = gE (gX V) (gW V) (gY V) p a := by unfold gE; rw [← evL_trim q, h, evL_trim]
theorem erL_trim (h : trimQ q = trimQ p) : erL V q N = erL V p N := by unfold erL; exact List.map_congr_left fun a _ => gE_trim h a
theorem best_same (g : GrOK V N) (h : Bst (gX V) (gW V) (gY V) N n p l) (hs : trimQ q = trimQ p) (hG : Gst (erL V q N) N a) : absQ (gE (gX V) (gW V) (gY V) q a) = absQ (eL V l) := by
 rw [erL_trim hs] at hG
 rw [gE_trim hs]; exact bst_max g h hG
theorem best_less (g : GrOK V N) (h : Bst (gX V) (gW V) (gY V) N n p l) (hq : q.length ≤ n) (hne : ¬ trimQ q = trimQ p) (hG : Gst (erL V q N) N a) : absQ (eL V l) < absQ (gE (gX V) (gW V) (gY V) q a) := by
 have : ∃ k, co p k ≠ co q k := Classical.byContradiction fun hc => hne (trim_ext fun i => Classical.byContradiction fun h9 => hc ⟨i, fun e => h9 e.symm⟩)
 obtain ⟨k, hk⟩ := this
 obtain ⟨b, hb, h1⟩ := h.other g.gr hq hk
 have h2 := hG.le b hb
 rw [erL_at hb, erL_at hG.lt] at h2
 rw [ab_eq, ab_eq]
 have e : eL V l = rE (gX V) (gW V) (gY V) l := rfl
 rw [e]; grind
end
end Nt
set_option maxHeartbeats 4000000 in
theorem w_exBest {u w : World} {x1 x2 : Sl} {l m : List Int} {g8 : Int} (d : Dat u w) (hx1 : SlR .i64 u x1.a x1.n x1.c l) (hb1 : ∀ z ∈ l, -9223372036854775808 ≤ z ∧ z ≤ 9223372036854775807) (hx2 : SlR .i64 u x2.a x2.n x2.c m) (hb2 : ∀ z ∈ m, -9223372036854775808 ≤ z ∧ z ≤ 9223372036854775807) (hwg8 : (Lit.int .u8 g8).wf = true) : Calls Tryz.prog 7 #[x1.v, x2.v, .int .u8 g8] w (Post u w fun v _ => v = .bool true) := by
 obtain ⟨aG, a3⟩ := wf_u8f hwg8
 refine zzm (args := [x1.v, x2.v, .int .u8 g8]) Tryz.func7 rfl Tryz.ntmps7 (rs := [.tmp 6]) Tryz.results7 (le_b rfl) (le_b rfl) d ?_
 refine sq9 (zza 6 (zB false) (zzb (sq9 (zza 15 (.v (x1.v)) (zzg 16 11 _ fun _ _ aO aR => Post.mono (k_grid aR (hx1.ext aO) hb1) ?_)))))
 rintro _ u13 aZ ⟨ae, N12, aa, rfl, ah, ad⟩
 have aL : ae.n = N12 := GrN.len ah
 have hlnN12 := ad.n12
 have hlmN12 := ad.n1
 refine zza 7 (.v (ae.v)) (zzb (sq9 (zza 17 (.v (.int .u8 g8)) (sy_conv 18 g8 (fun w => by kernel_rfl) (IntWalk.i64_in _ xq) ?_))))
 refine sy_rem 19 (g8 % 5) yq (Int.tmod_eq_emod_of_nonneg aG) ?_
 refine zza 8 (zI (g8 % 5)) (zzb (zzd ?_))
 obtain ⟨D, hnD⟩ : ∃ n : Nat, g8 % 5 = (n : Int) := ⟨(g8 % 5).toNat, by omega⟩
 rw [hnD]
 have hbD : D ≤ 4 := by omega
 by_cases hDN : D + 2 ≤ N12
 ·skip
  refine zzf (zza 21 (.v (ae.v)) (zza 22 (zI D) (zzg 23 13 _ fun _ _ aH a1 => Post.mono (k_exDesign (D := D) a1 (ah.ext aH) ad hDN) ?_)))
  rintro _ u18 aJ ⟨an, ag, aD, ac, rfl, ai, az, aX, ap⟩
  have hly17 := ai.len
  have hlly17 := Nt.Bst.len ap
  refine zza 20 (.v (.tuple #[.agg #[an.v, .bool ag.s, ag.m.v, ag.d.v, .slice (some ⟨aD, 0, none⟩) (D + 2) (D + 2)], .int .i64 0])) (zza 24 (.v (.agg #[an.v, .bool ag.s, ag.m.v, ag.d.v, .slice (some ⟨aD, 0, none⟩) (D + 2) (D + 2)])) (zza 25 (zI 0) (zzk 9 ⟨34, [.slice none 0 0, .bool false, .slice none 0 0, .slice none 0 0, .slice none 0 0]⟩ (zzj ⟨34, [an.v] ++ ag.cs ++ [.slice (some ⟨aD, 0, none⟩) (D + 2) (D + 2)]⟩ ty34 ?_))))
  refine zza 10 (zI 0) (zzb (zzd (sq9 (zza 26 (zI 0) (zza 27 (zB false) (zzb (zys xk (zzs (zzp ?_)))))))))
  refine zzd (zzz [0, 1, 0, 0, 12, 31, 63] [(0, []), (1, []), (2, []), (3, []), (4, []), (5, []), (6, [])] xk xk (zza 40 (.adr 9 0) (zzi 41 (.v (an.v)) ty27 zzl (zza 42 (.v (x2.v)) (zza 43 (zI D) (zzg 44 29 _ fun _ _ aq aV => Post.mono (k_mkPoly (x := x2) (D := D) aV (hx2.ext (aO.t (aZ.t (aH.t (aJ.t aq))))) hb2 xq) ?_))))))
  rintro _ u24 av ⟨y22, rfl, aN⟩
  have hly22 := aN.len
  have aF : (Nt.mkP m D).length ≤ D + 1 := Nt.mkP_len m D
  refine zzg 45 22 _ fun _ _ ao aT => Post.mono (k_r5Add aT (ai.ext (aq.t (av.t ao))).raw (aN.ext ao).raw xq xq xj xj) ?_
  rintro _ u30 aC ⟨aB, rfl, aA⟩
  have hly28 := aA.len
  refine zza 11 (.v (aB.v)) (zzb (zzd ?_))
  have hqL : (Nt.trimQ (Nt.addQ (Nt.pL aa ac) (Nt.mkP m D))).length ≤ D + 1 := Nat.le_trans (Nt.zzh _) (by rw [Nt.addQ_len]; omega)
  have hql := PolN.len aA
  refine zzf (zza 47 (.v (ae.v)) (zza 48 (.v (aB.v)) (zzg 49 34 _ fun _ _ aj a0 => Post.mono (k_exError (M := 1400000) a0 (ah.ext (aH.t (aJ.t (aq.t (av.t (ao.t (aC.t aj))))))) ad (aA.ext aj).raw xq xq yq) ?_)))
  rintro _ u35 aw ⟨au, af, rfl, ay, ar⟩
  have hgl34 := Nt.Gst.lt ar
  refine zza 46 (.v (.tuple #[au.v, .int .i64 af, .int .i64 0])) (zza 50 (.v (au.v)) (zza 51 (zI af) (zza 52 (zI 0) (zzk 12 ⟨32, zw3⟩ (zzj ⟨32, au.cs⟩ ty32 ?_)))))
  refine zza 13 (zI af) (zza 14 (zI 0) (zzc 90 [(7, .v (ae.v)), (8, zI D), (9, .adr 9 0), (11, .v (aB.v)), (12, .adr 12 0), (14, zI 0)] [(9, ⟨34, [an.v] ++ ag.cs ++ [.slice (some ⟨aD, 0, none⟩) (D + 2) (D + 2)]⟩), (12, ⟨32, au.cs⟩)] (sq9 (zzg 53 18 _ fun _ _ am a2 => Post.mono (k_awake15 a2) ?_))))
  rintro _ u39 ak rfl
  refine zza 54 (zB true) (zza 55 (zI 0) ?_ (hw := w1 1 true 54))
  refine zza 56 (zB true) ?_ (hw := w1 1 true 54)
  refine zza 57 (zB true) (zza 58 (zB true) (zza 59 (.v (ae.v)) ?_ (hw := w1 5 true 58)))
  refine zza 60 (zI ae.n) ?_ (hw := w1 5 true 58)
  refine zza 61 (zI D) ?_ (hw := w1 5 true 58)
  refine zyq 62 (x := zI (IntKind.i64.wrap ((D : Int) + 2))) (zI (D + 2 : Nat)) (eqI xz) ?_ (hw := w1 5 true 58)
  refine zza 63 (zB (decide (((D + 2 : Nat) : Int) ≤ (ae.n : Int)))) ?_ (hw := w1 5 true 58)
  refine zza 64 (zB (decide (((D + 2 : Nat) : Int) ≤ (ae.n : Int)))) (zyq 65 (x := zB (decide (((D + 2 : Nat) : Int) ≤ (ae.n : Int)))) (zB true) (by rw [show (decide (((D + 2 : Nat) : Int) ≤ (ae.n : Int))) = true from (decide_eq_true xq)]) (zza 66 (.v (aB.v)) ?_ (hw := w1 12 true 65)))
  refine zza 67 (.adr 9 0) ?_ (hw := w1 12 true 65)
  refine zzi 68 (.v (an.v)) ty27 zzl ?_ (hw := w1 12 true 65)
  refine zzg 69 37 _ (fun _ _ al aQ => Post.mono (k_r5Same aQ (aA.ext (aj.t (aw.t (am.t (ak.t al))))).raw (ai.ext (aq.t (av.t (ao.t (aC.t (aj.t (aw.t (am.t (ak.t al))))))))).raw xq xq xj xj) ?_) (hw := w1 12 true 65)
  rintro _ u44 ax rfl
  rcases Bool.eq_false_or_eq_true (decide (Nt.trimQ (Nt.trimQ (Nt.addQ (Nt.pL aa ac) (Nt.mkP m D))) = Nt.trimQ (Nt.pL aa ac))) with hs47 | hs47
  ·refine zyq 70 (x := zB (decide (Nt.trimQ (Nt.trimQ (Nt.addQ (Nt.pL aa ac) (Nt.mkP m D))) = Nt.trimQ (Nt.pL aa ac)))) (zB true) (by rw [hs47]) ?_ (hw := w1 12 true 65)
   have qhs47 := of_decide_eq_true hs47
   refine zzi 71 (.v (au.v)) ty32 zze ?_ (hw := w1 17 true 70)
   refine zza 72 (.adr 9 1) ?_ (hw := w1 17 true 70)
   refine zzi 73 (.v (ag.v)) ty32 zze ?_ (hw := w1 17 true 70)
   refine zzg 74 16 _ (fun _ _ aK aP => Post.mono (k_rqSame aP (ay.ext (am.t (ak.t (al.t (ax.t aK))))) (az.ext (aq.t (av.t (ao.t (aC.t (aj.t (aw.t (am.t (ak.t (al.t (ax.t aK)))))))))))) ?_) (hw := w1 17 true 70)
   rintro _ u49 g50 rfl
   refine zza 75 (zB (decide ((Nt.absQ (Nt.gE (Nt.gX aa) (Nt.gW aa) (Nt.gY aa) (Nt.trimQ (Nt.addQ (Nt.pL aa ac) (Nt.mkP m D))) af)) = (Nt.absQ (Nt.eL aa ac))))) ?_ (hw := w1 12 true 65)
   refine zyq 76 (x := zB (decide ((Nt.absQ (Nt.gE (Nt.gX aa) (Nt.gW aa) (Nt.gY aa) (Nt.trimQ (Nt.addQ (Nt.pL aa ac) (Nt.mkP m D))) af)) = (Nt.absQ (Nt.eL aa ac))))) (zB true) (by rw [show (decide ((Nt.absQ (Nt.gE (Nt.gX aa) (Nt.gW aa) (Nt.gY aa) (Nt.trimQ (Nt.addQ (Nt.pL aa ac) (Nt.mkP m D))) af)) = (Nt.absQ (Nt.eL aa ac)))) = true from (decide_eq_true (Nt.best_same ad ap (of_decide_eq_true hs47) ar))]) ?_ (hw := w1 12 true 65)
   refine zzn 77 (uw 23 false true 76) (zzn 78 (uw 23 false true 76) (zzn 79 (uw 23 false true 76) (zzn 80 (uw 23 false true 76) (zzn 81 (uw 23 false true 76) (zzn 82 (uw 23 false true 76) (zzn 83 (unwantedU (g := 29) (b := true) (t := 82) xk xk xk) (zzn 84 (unwantedU (g := 29) (b := true) (t := 82) xk xk xk) (zzn 85 (unwantedU (g := 29) (b := true) (t := 82) xk xk xk) (zzn 86 (unwantedU (g := 29) (b := true) (t := 82) xk xk xk) (zzn 87 (uw 23 false true 76) (zza 88 (zB true) ?_ (hw := w1 12 true 65))))))))))))
   refine zza 89 (zB true) (zza 6 (zB true) (zzc 90 [(6, zB true)] [] (zzo (ret0 [.bool true] ⟨zzq, trivial⟩ fun u53 e54 => ?_))))
   rfl
  refine zyq 70 (x := zB (decide (Nt.trimQ (Nt.trimQ (Nt.addQ (Nt.pL aa ac) (Nt.mkP m D))) = Nt.trimQ (Nt.pL aa ac)))) (zB false) (by rw [hs47]) ?_ (hw := w1 12 true 65)
  have qhs47 := of_decide_eq_false hs47
  refine zzn 71 (uw 17 true false 70) (zzn 72 (uw 17 true false 70) (zzn 73 (uw 17 true false 70) (zzn 74 (uw 17 true false 70) (zza 75 (zB false) ?_ (hw := w1 12 true 65)))))
  refine zza 76 (zB false) ?_ (hw := w1 12 true 65)
  refine zza 77 (.v (aB.v)) ?_ (hw := w1 23 false 76)
  refine zza 78 (.adr 9 0) ?_ (hw := w1 23 false 76)
  refine zzi 79 (.v (an.v)) ty27 zzl ?_ (hw := w1 23 false 76)
  refine zzg 80 37 _ (fun _ _ aE aS => Post.mono (k_r5Same aS (aA.ext (aj.t (aw.t (am.t (ak.t (al.t (ax.t aE))))))).raw (ai.ext (aq.t (av.t (ao.t (aC.t (aj.t (aw.t (am.t (ak.t (al.t (ax.t aE))))))))))).raw xq xq xj xj) ?_) (hw := w1 23 false 76)
  rintro _ u56 aM rfl
  refine zza 81 (zB (!(decide (Nt.trimQ (Nt.trimQ (Nt.addQ (Nt.pL aa ac) (Nt.mkP m D))) = Nt.trimQ (Nt.pL aa ac))))) ?_ (hw := w1 23 false 76)
  refine zyq 82 (x := zB (!(decide (Nt.trimQ (Nt.trimQ (Nt.addQ (Nt.pL aa ac) (Nt.mkP m D))) = Nt.trimQ (Nt.pL aa ac))))) (zB true) (by rw [show (!(decide (Nt.trimQ (Nt.trimQ (Nt.addQ (Nt.pL aa ac) (Nt.mkP m D))) = Nt.trimQ (Nt.pL aa ac)))) = true from (by rw [hs47]; rfl)]) ?_ (hw := w1 23 false 76)
  refine zza 83 (.adr 9 1) ?_ (hw := w1 29 true 82)
  refine zzi 84 (.v (ag.v)) ty32 zze ?_ (hw := w1 29 true 82)
  refine zzi 85 (.v (au.v)) ty32 zze ?_ (hw := w1 29 true 82)
  refine zzg 86 26 _ (fun _ _ aI aY => Post.mono (k_rqLess aY (az.ext (aq.t (av.t (ao.t (aC.t (aj.t (aw.t (am.t (ak.t (al.t (ax.t (aE.t (aM.t aI))))))))))))).raw (ay.ext (am.t (ak.t (al.t (ax.t (aE.t (aM.t aI))))))).raw xq xq) ?_) (hw := w1 29 true 82)
  rintro _ u61 g62 rfl
  refine zza 87 (zB (decide ((Nt.absQ (Nt.eL aa ac)) < (Nt.absQ (Nt.gE (Nt.gX aa) (Nt.gW aa) (Nt.gY aa) (Nt.trimQ (Nt.addQ (Nt.pL aa ac) (Nt.mkP m D))) af))))) ?_ (hw := w1 23 false 76)
  refine zza 88 (zB (decide ((Nt.absQ (Nt.eL aa ac)) < (Nt.absQ (Nt.gE (Nt.gX aa) (Nt.gW aa) (Nt.gY aa) (Nt.trimQ (Nt.addQ (Nt.pL aa ac) (Nt.mkP m D))) af))))) ?_ (hw := w1 12 true 65)
  refine zza 89 (zB (decide ((Nt.absQ (Nt.eL aa ac)) < (Nt.absQ (Nt.gE (Nt.gX aa) (Nt.gW aa) (Nt.gY aa) (Nt.trimQ (Nt.addQ (Nt.pL aa ac) (Nt.mkP m D))) af))))) (zza 6 (zB (decide ((Nt.absQ (Nt.eL aa ac)) < (Nt.absQ (Nt.gE (Nt.gX aa) (Nt.gW aa) (Nt.gY aa) (Nt.trimQ (Nt.addQ (Nt.pL aa ac) (Nt.mkP m D))) af))))) (zzc 90 [(6, zB (decide ((Nt.absQ (Nt.eL aa ac)) < (Nt.absQ (Nt.gE (Nt.gX aa) (Nt.gW aa) (Nt.gY aa) (Nt.trimQ (Nt.addQ (Nt.pL aa ac) (Nt.mkP m D))) af)))))] [] (zzo (ret0 [.bool (decide ((Nt.absQ (Nt.eL aa ac)) < (Nt.absQ (Nt.gE (Nt.gX aa) (Nt.gW aa) (Nt.gY aa) (Nt.trimQ (Nt.addQ (Nt.pL aa ac) (Nt.mkP m D))) af))))] ⟨zzq, trivial⟩ fun u64 e65 => ?_))))
  show Value.bool _ = Value.bool true
  rw [show (decide ((Nt.absQ (Nt.eL aa ac)) < (Nt.absQ (Nt.gE (Nt.gX aa) (Nt.gW aa) (Nt.gY aa) (Nt.trimQ (Nt.addQ (Nt.pL aa ac) (Nt.mkP m D))) af)))) = true from (decide_eq_true (Nt.best_less ad ap hqL (of_decide_eq_false hs47) ar))]
 refine zzf (zza 21 (.v (ae.v)) (zza 22 (zI D) (zzg 23 13 _ fun _ _ a4 aW => Post.mono (k_exDesignE (D := (D : Nat)) aW (ah.ext a4) ad (by rw [Nt.wrE_1 hDN xq]; decide)) ?_)))
 rintro _ u67 g68 rfl
 refine zza 20 (.v (.tuple #[.agg #[.slice none 0 0, .bool false, .slice none 0 0, .slice none 0 0, .slice none 0 0], .int .i64 (Nt.wrE N12 D)])) (zza 24 (.v (.agg #[.slice none 0 0, .bool false, .slice none 0 0, .slice none 0 0, .slice none 0 0])) (zza 25 (zI (Nt.wrE N12 D)) (zzk 9 ⟨34, [.slice none 0 0, .bool false, .slice none 0 0, .slice none 0 0, .slice none 0 0]⟩ (zzj ⟨34, [.slice none 0 0, .bool false, .slice none 0 0, .slice none 0 0, .slice none 0 0]⟩ ty34 ?_))))
 refine zza 10 (zI (Nt.wrE N12 D)) (zzb (zzd (sq9 (zza 26 (zI (Nt.wrE N12 D)) (zza 27 (zB ((Nt.wrE N12 D) != 0)) (zzb (zzu (b := (Nt.wrE N12 D) != 0) xk (fun hb => ?_) (fun hb => ?_))))))))
 ·clear hb
  refine sq9 (zzg 28 18 _ fun _ _ _ aU => Post.mono (k_awake15 aU) ?_)
  rintro _ u71 g72 rfl
  refine zza 29 (zB true) (zza 30 (zI (Nt.wrE N12 D)) ?_ (hw := w1 1 true 29))
  refine zza 31 (zB ((Nt.wrE N12 D) == 1)) ?_ (hw := w1 1 true 29)
  refine zza 32 (zB ((Nt.wrE N12 D) == 1)) (zyq 33 (x := zB ((Nt.wrE N12 D) == 1)) (zB true) (by rw [show ((Nt.wrE N12 D) == 1) = true from (by rw [Nt.wrE_1 hDN xq]; rfl)]) (zza 34 (.v (ae.v)) ?_ (hw := w1 5 true 33)))
  refine zza 35 (zI ae.n) ?_ (hw := w1 5 true 33)
  refine zza 36 (zI D) ?_ (hw := w1 5 true 33)
  refine zyq 37 (x := zI (IntKind.i64.wrap ((D : Int) + 2))) (zI (D + 2 : Nat)) (eqI xz) ?_ (hw := w1 5 true 33)
  refine zza 38 (zB (decide ((ae.n : Int) < ((D + 2 : Nat) : Int)))) ?_ (hw := w1 5 true 33)
  refine zza 39 (zB (decide ((ae.n : Int) < ((D + 2 : Nat) : Int)))) (zza 6 (zB (decide ((ae.n : Int) < ((D + 2 : Nat) : Int)))) (zzc 90 [(6, zB (decide ((ae.n : Int) < ((D + 2 : Nat) : Int))))] [] (zzo (zzw (ret0 [.bool (decide ((ae.n : Int) < ((D + 2 : Nat) : Int)))] ⟨zzq, trivial⟩ fun u75 e76 => ?_)))))
  show Value.bool _ = Value.bool true
  rw [show (decide ((ae.n : Int) < ((D + 2 : Nat) : Int))) = true from (decide_eq_true xq)]
 exact absurd hb (by rw [show ((Nt.wrE N12 D) != 0) = true from (by rw [Nt.wrE_1 hDN xq]; rfl)]; decide)
end Go.Proofs.YtgmkhhfbckjaeaaGreat

/- The contract of make.Rooted. Printed by wip/sym/g_rt.py. Plain laws: larger intervals have larger results; common numbers. Values, without programs: Horner's rule, compositions, enclosures. Horner's rule with whole numbers, without programs; values of sums, products, compositions. The laws on common divisors and enclosures, in the words of lists. The law on divisions, in the words of lists. PolyDivisions, walked. Printed by wip/sym/g_l5y.py. -/
import Derived.Test.YtnedhbidmfoegaaGreatDtE
namespace Go.Proofs.YtnedhbidmfoegaaGreat
open Go.RowKit
set_option linter.unusedVariables false
theorem PolN.fitRS {u : World} {x : Sl} {l : List Rat} {K j : Nat} (h : PolN u x l K) (s : Nt.RSz l j) (hj : j ≤ 9) : PolN u x l 2 := by
  obtain ⟨h1, D, h2, h3⟩ := s
  exact (h.fitS h3 h2).more (Nat.le_trans (Nt.dg_mono (show 2 + 6 * j ≤ 56 by omega)) (by decide))
theorem PolN.fitRF {u : World} {x : Sl} {l : List Rat} {K : Nat} (h : PolN u x l K) (s : Nt.RFin l) : PolN u x l 2 := by
  obtain ⟨h1, D, h2, h3⟩ := s
  exact h.fitS h3 h2
set_option maxHeartbeats 16000000 in
theorem k_rooted {u w : World} {x : Sl} {l : List Int} (d : Dat u w) (hx : SlR .i64 u x.a x.n x.c l) (hb : ∀ z ∈ l, -9223372036854775808 ≤ z ∧ z ≤ 9223372036854775807) : Calls Tryz.prog 38 #[x.v] w (Post u w fun v u' => ∃ (y1 y2 : Sl) (pl rs : List Rat), v = .tuple #[y1.v, y2.v] ∧ PolN u' y1 pl 2 ∧ PolN u' y2 rs 1 ∧ Nt.RFin pl) := by
  have hlen : l.length = x.n := hx.1
  refine calls_sym (args := [.slice x.a x.n x.c]) Tryz.func38 rfl Tryz.ntmps38 (rs := [.tmp 2, .tmp 3]) Tryz.results38 (le_b rfl) (le_b rfl) d ?_
  refine sw_seq ?_
  refine sw_reg ?_
  refine sy_pure 2 (.v (.slice none 0 0)) ?_
  refine sy_pure 3 (.v (.slice none 0 0)) ?_
  refine sy_next 81 [(0, .v (.slice x.a x.n x.c))] [] ?_
  refine sw_seq ?_
  refine sw_reg ?_
  refine sy_pure 13 (.v (.slice x.a x.n x.c)) ?_
  refine sy_pure 14 (.v (.agg #[.slice x.a x.n x.c, .int .i64 0])) ?_
  refine sy_new 15 ⟨100, [.slice x.a x.n x.c, .int .i64 0]⟩ ?_
  refine sy_pure 4 (.adr 15 0) ?_
  refine sy_next 81 [(4, .adr 15 0)] [(15, ⟨100, [.slice x.a x.n x.c, .int .i64 0]⟩)] ?_
  refine sw_seq ?_
  refine sw_reg ?_
  refine sy_pure 16 (.adr 15 0) ?_
  have kc12 := fun (g : Nat) (w u1 : World) (e : Ext u u1) (d : Dat u1 w) (hg : w.heap[g]? = some (.cells (tpc x 0).toArray 100 (0, 0))) (hu : u1.heap[g]? = some hidO) => (show Calls Tryz.prog 119 (Value.pointer (some ⟨g, 0, none⟩) :: [.int .i64 3]).toArray w _ from k_tapeNext (m := 3) d hg hu (SlR.ext hx e) hb (Nat.zero_le _) (by decide) (by decide))
  refine sy_lendP 17 119 (t := 15) (V := ⟨100, [.slice x.a x.n x.c, .int .i64 0]⟩) [.int .i64 3] (by kernel_rfl) kc12 ?_
  clear kc12
  rintro v11 V11 u11 e11 ⟨z11, a11, rfl, hz11, rfl, ha11⟩
  refine sy_eq 18 (x := .v (.int .i64 (IntKind.i64.wrap ((1 : Int) + (z11 : Int))))) (.v (.int .i64 ((1 + z11 : Nat) : Int))) (eqI (by rw [IntWalk.i64_in _ (by omega)]; omega)) ?_
  refine sy_call 19 41 [.int .i64 ((1 + z11 : Nat) : Int)] ?_
  intro w13 u13 e13 d13
  have k18 := k_rqOf d13 (z := ((1 + z11 : Nat) : Int)) (by omega) (by omega)
  with_reducible refine Post.mono k18 ?_
  clear k18
  rintro _ u16 g17 ⟨r14, rfl, h15⟩
  refine sy_data 20 ⟨26, r14.cs⟩ 1 (fun b19 u20 e21 h22 => ?_)
  have hp23 : PolN u20 (⟨some ⟨b19, 0, none⟩, 1, 1⟩ : Sl) [((((1 + z11 : Nat) : Int) : Int) : Rat)] 2 := pol_lit (L := [r14]) h22 (rats1 (h15.ext e21)) rfl (by decide)
  refine sy_pure 5 (.v (.slice (some ⟨b19, 0, none⟩) 1 1)) ?_
  refine sy_next 81 [(4, .adr 15 0), (5, .v (.slice (some ⟨b19, 0, none⟩) 1 1))] [(15, ⟨100, [.slice x.a x.n x.c, .int .i64 (a11 : Int)]⟩)] ?_
  refine sw_seq ?_
  refine sw_seq ?_
  have hr0 : Nt.RSz [((((1 + z11 : Nat) : Int) : Int) : Rat)] 0 := Nt.RSz.one hz11
  refine sw_reg ?_
  refine sy_pure 21 (.adr 15 0) ?_
  have kc25 := fun (g : Nat) (w u1 : World) (e : Ext u20 u1) (d : Dat u1 w) (hg : w.heap[g]? = some (.cells (tpc x a11).toArray 100 (0, 0))) (hu : u1.heap[g]? = some hidO) => (show Calls Tryz.prog 119 (Value.pointer (some ⟨g, 0, none⟩) :: [.int .i64 2]).toArray w _ from k_tapeNext (m := 2) d hg hu (SlR.ext (hx.ext (e11.trans (e13.trans (g17.ext.trans e21)))) e) hb ha11 (by decide) (by decide))
  refine sy_lendP 22 119 (t := 15) (V := ⟨100, [.slice x.a x.n x.c, .int .i64 (a11 : Int)]⟩) [.int .i64 2] (by kernel_rfl) kc25 ?_
  clear kc25
  rintro v24 V24 u24 e24 ⟨z24, a24, rfl, hz24, rfl, ha24⟩
  refine sy_pure 23 (.v (.bool ((z24 : Int) == 1))) ?_
  refine sy_next 81 [(4, .adr 15 0), (5, .v (.slice (some ⟨b19, 0, none⟩) 1 1)), (23, .v (.bool ((z24 : Int) == 1)))] [(15, ⟨100, [.slice x.a x.n x.c, .int .i64 (a24 : Int)]⟩)] ?_
  refine sw_cond (b := (z24 : Int) == 1) (by kernel_rfl) (fun hb26 => ?_) (fun hb26 => ?_)
  · replace hb26 : ((z24 : Int) == 1) = true := hb26
    have qhb26 : (z24 : Int) = 1 := by simpa using hb26
    refine sw_reg ?_
    refine sy_pure 24 (.v (.slice (some ⟨b19, 0, none⟩) 1 1)) ?_
    refine sy_call 25 41 [.int .i64 (-1)] ?_
    intro w27 u27 e27 d27
    have k32 := k_rqOf d27 (z := (-1)) (by omega) (by omega)
    with_reducible refine Post.mono k32 ?_
    clear k32
    rintro _ u30 g31 ⟨r28, rfl, h29⟩
    refine sy_call 26 98 [.slice (some ⟨b19, 0, none⟩) 1 1, r28.v] ?_
    intro w33 u33 e33 d33
    have k38 := k_r5Scale d33 (hp23.ext (e24.trans (e27.trans (g31.ext.trans e33)))).raw (h29.ext e33).raw (by omega) (by simp) (by omega)
    with_reducible refine Post.mono k38 ?_
    clear k38
    rintro _ u36 g37 ⟨y34, rfl, h35⟩
    have hly34 := h35.len
    refine sy_pure 5 (.v (.slice y34.a y34.n y34.c)) ?_
    refine sy_next 81 [(4, .adr 15 0), (5, .v (.slice y34.a y34.n y34.c))] [(15, ⟨100, [.slice x.a x.n x.c, .int .i64 (a24 : Int)]⟩)] ?_
    refine sw_seq ?_
    have hr1 : Nt.RSz (Nt.trimQ ([((((1 + z11 : Nat) : Int) : Int) : Rat)].map (· * (((-1) : Int) : Rat)))) 0 := Nt.RSz.neg hr0
    refine sw_reg ?_
    refine sy_pure 6 (.v (.slice none 0 0)) ?_
    refine sy_next 81 [(4, .adr 15 0), (5, .v (.slice y34.a y34.n y34.c)), (6, .v (.slice none 0 0))] [(15, ⟨100, [.slice x.a x.n x.c, .int .i64 (a24 : Int)]⟩)] ?_
    refine sw_seq ?_
    refine sw_seq ?_
    refine sw_reg ?_
    refine sy_pure 27 (.adr 15 0) ?_
    have kc40 := fun (g : Nat) (w u1 : World) (e : Ext u36 u1) (d : Dat u1 w) (hg : w.heap[g]? = some (.cells (tpc x a24).toArray 100 (0, 0))) (hu : u1.heap[g]? = some hidO) => (show Calls Tryz.prog 119 (Value.pointer (some ⟨g, 0, none⟩) :: [.int .i64 4]).toArray w _ from k_tapeNext (m := 4) d hg hu (SlR.ext (hx.ext (e11.trans (e13.trans (g17.ext.trans (e21.trans (e24.trans (e27.trans (g31.ext.trans (e33.trans g37.ext))))))))) e) hb ha24 (by decide) (by decide))
    refine sy_lendP 28 119 (t := 15) (V := ⟨100, [.slice x.a x.n x.c, .int .i64 (a24 : Int)]⟩) [.int .i64 4] (by kernel_rfl) kc40 ?_
    clear kc40
    rintro v39 V39 u39 e39 ⟨z39, a39, rfl, hz39, rfl, ha39⟩
    refine sy_pure 7 (.v (.int .i64 (z39 : Int))) ?_
    refine sy_next 81 [(4, .adr 15 0), (5, .v (.slice y34.a y34.n y34.c)), (6, .v (.slice none 0 0)), (7, .v (.int .i64 (z39 : Int)))] [(15, ⟨100, [.slice x.a x.n x.c, .int .i64 (a39 : Int)]⟩)] ?_
    refine sw_block ?_
    refine sw_loop (I := fun m41 S' u' => (∃ (k : Nat) (xp : Sl) (pl : List Rat) (a9 : Nat), m41 = k ∧ k ≤ 3 ∧ a9 ≤ x.n ∧ Nt.RSz pl (3 * (3 - k)) ∧ S' = St.of 81 [(4, .adr 15 0), (5, .v (.slice xp.a xp.n xp.c)), (6, .v (.slice none 0 0)), (7, .v (.int .i64 (k : Int)))] [(15, ⟨100, [.slice x.a x.n x.c, .int .i64 (a9 : Int)]⟩)] ∧ Ext u39 u' ∧ PolN u' xp pl 2) ∨ (∃ (k : Nat) (xp : Sl) (pl : List Rat) (a9 : Nat) (L : List RL) (X : List Value) (n9 cp : Nat) (rs : List Rat), m41 = k ∧ k ≤ 3 ∧ a9 ≤ x.n ∧ Nt.RSz pl (3 * (3 - k)) ∧ L.length = n9 ∧ 0 < n9 ∧ n9 ≤ 3 - k ∧ (rcs L ++ X).length = cp * 3 ∧ n9 ≤ cp ∧ cp ≤ maxLen ∧ S' = St.of 81 [(4, .adr 15 0), (5, .v (.slice xp.a xp.n xp.c)), (6, .slc 54 0 n9 cp), (7, .v (.int .i64 (k : Int)))] [(15, ⟨100, [.slice x.a x.n x.c, .int .i64 (a9 : Int)]⟩), (54, ⟨26, rcs L ++ X⟩)] ∧ Ext u39 u' ∧ PolN u' xp pl 2 ∧ RatsN u' L rs 1)) (fun m S u1 u2 e h => by rcases h with ⟨a1, a2, a3, a4, b1, b2, b3, b4, b5, b6, b7⟩ | ⟨a1, a2, a3, a4, a5, a6, a7, a8, a9, b1, b2, b3, b4, b5, b6, b7, b8, b9, c1, c2, c3, c4, c5⟩; exact .inl ⟨a1, a2, a3, a4, b1, b2, b3, b4, b5, b6.trans e, b7.ext e⟩; exact .inr ⟨a1, a2, a3, a4, a5, a6, a7, a8, a9, b1, b2, b3, b4, b5, b6, b7, b8, b9, c1, c2, c3.trans e, c4.ext e, c5.ext e⟩) _ (T := St.of 81 [(4, .adr 15 0), (5, .v (.slice y34.a y34.n y34.c)), (6, .v (.slice none 0 0)), (7, .v (.int .i64 (z39 : Int)))] [(15, ⟨100, [.slice x.a x.n x.c, .int .i64 (a39 : Int)]⟩)]) (by exact weak_mk _ _ _) (.inl ⟨z39, y34, _, a39, rfl, by omega, by omega, (Nt.RSz.more hr1 (Nat.zero_le _)), rfl, Ext.refl _, (PolN.fitRS (h35.ext e39) hr1 (by decide))⟩) ?_
    rintro m41 _ u41 (⟨k, xp, pl, a9, hm9, hk3, ha9, hRz, rfl, e41, hP9⟩ | ⟨k, xp, pl, a9, L, X, n9, cp, rs, hm9, hk3, ha9, hRz, hL9, hn0, hn3, hc9, hle9, hmx9, rfl, e41, hP9, hRo⟩)
    · change SW _ _ _ _ (St.of 81 [(4, .adr 15 0), (5, .v (.slice xp.a xp.n xp.c)), (6, .v (.slice none 0 0)), (7, .v (.int .i64 (k : Int)))] [(15, ⟨100, [.slice x.a x.n x.c, .int .i64 (a9 : Int)]⟩)]) _ _
      have hlp := hP9.len
      refine sw_seq ?_
      refine sw_seq ?_
      refine sw_reg ?_
      refine sy_pure 29 (.v (.int .i64 (k : Int))) ?_
      refine sy_pure 30 (.v (.bool (decide ((0 : Int) < (k : Int))))) ?_
      refine sy_next 81 [(4, .adr 15 0), (5, .v (.slice xp.a xp.n xp.c)), (6, .v (.slice none 0 0)), (7, .v (.int .i64 (k : Int))), (30, .v (.bool (decide ((0 : Int) < (k : Int)))))] [(15, ⟨100, [.slice x.a x.n x.c, .int .i64 (a9 : Int)]⟩)] ?_
      refine sw_cond (b := decide ((0 : Int) < (k : Int))) (by kernel_rfl) (fun hb42 => ?_) (fun hb42 => ?_)
      · replace hb42 : (decide ((0 : Int) < (k : Int))) = true := hb42
        have qhb42 := of_decide_eq_true hb42
        refine sw_skip (mp_seq ?_)
        refine sw_seq ?_
        refine sw_block ?_
        refine sw_seq ?_
        refine sw_reg ?_
        refine sy_pure 33 (.adr 15 0) ?_
        have kc44 := fun (g : Nat) (w u1 : World) (e : Ext u41 u1) (d : Dat u1 w) (hg : w.heap[g]? = some (.cells (tpc x a9).toArray 100 (0, 0))) (hu : u1.heap[g]? = some hidO) => (show Calls Tryz.prog 119 (Value.pointer (some ⟨g, 0, none⟩) :: [.int .i64 25]).toArray w _ from k_tapeNext (m := 25) d hg hu (SlR.ext (hx.ext (e11.trans (e13.trans (g17.ext.trans (e21.trans (e24.trans (e27.trans (g31.ext.trans (e33.trans (g37.ext.trans (e39.trans e41))))))))))) e) hb ha9 (by decide) (by decide))
        refine sy_lendP 34 119 (t := 15) (V := ⟨100, [.slice x.a x.n x.c, .int .i64 (a9 : Int)]⟩) [.int .i64 25] (by kernel_rfl) kc44 ?_
        clear kc44
        rintro v43 V43 u43 e43 ⟨z43, a43, rfl, hz43, rfl, ha43⟩
        refine sy_call 35 120 [.int .i64 (z43 : Int)] ?_
        intro w45 u45 e45 d45
        have k50 := k_cos d45 (n := (z43 : Int)) (by omega) (by omega)
        with_reducible refine Post.mono k50 ?_
        clear k50
        rintro _ u48 g49 ⟨r46, rfl, h47⟩
        refine sy_new 8 ⟨26, [.bool false, .slice none 0 0, .slice none 0 0]⟩ ?_
        refine sy_store ⟨26, r46.cs⟩ ty26 ?_
        refine sy_next 81 [(4, .adr 15 0), (5, .v (.slice xp.a xp.n xp.c)), (6, .v (.slice none 0 0)), (7, .v (.int .i64 (k : Int))), (8, .adr 8 0)] [(8, ⟨26, r46.cs⟩), (15, ⟨100, [.slice x.a x.n x.c, .int .i64 (a43 : Int)]⟩)] ?_
        refine sw_seq ?_
        refine sw_reg ?_
        refine sy_pure 9 (.v (.bool false)) ?_
        refine sy_next 81 [(4, .adr 15 0), (5, .v (.slice xp.a xp.n xp.c)), (6, .v (.slice none 0 0)), (7, .v (.int .i64 (k : Int))), (8, .adr 8 0), (9, .v (.bool false))] [(8, ⟨26, r46.cs⟩), (15, ⟨100, [.slice x.a x.n x.c, .int .i64 (a43 : Int)]⟩)] ?_
        refine sw_seq ?_
        refine sw_seq ?_
        refine sw_reg ?_
        refine sy_pure 36 (.v (.slice none 0 0)) ?_
        refine sy_pure 37 (.v (.int .i64 0)) ?_
        refine sy_pure 38 (.v (.int .i64 0)) ?_
        refine sy_next 81 [(4, .adr 15 0), (5, .v (.slice xp.a xp.n xp.c)), (6, .v (.slice none 0 0)), (7, .v (.int .i64 (k : Int))), (8, .adr 8 0), (9, .v (.bool false)), (36, .v (.slice none 0 0)), (37, .v (.int .i64 0)), (38, .v (.int .i64 0))] [(8, ⟨26, r46.cs⟩), (15, ⟨100, [.slice x.a x.n x.c, .int .i64 (a43 : Int)]⟩)] ?_
        refine sw_block ?_
        refine sw_rounds 0 ?_
        refine sw_seq ?_
        refine sw_reg ?_
        refine sy_pure 39 (.v (.bool false)) ?_
        refine sy_next 81 [(4, .adr 15 0), (5, .v (.slice xp.a xp.n xp.c)), (6, .v (.slice none 0 0)), (7, .v (.int .i64 (k : Int))), (8, .adr 8 0), (9, .v (.bool false)), (36, .v (.slice none 0 0)), (37, .v (.int .i64 0)), (38, .v (.int .i64 0)), (39, .v (.bool false))] [(8, ⟨26, r46.cs⟩), (15, ⟨100, [.slice x.a x.n x.c, .int .i64 (a43 : Int)]⟩)] ?_
        refine sw_seq ?_
        refine sw_false (by kernel_rfl) ?_
        refine sw_exit ?_
        refine mp_seq ?_
        refine sw_seq ?_
        refine sw_seq ?_
        refine sw_reg ?_
        refine sy_pure 50 (.v (.bool false)) ?_
        refine sy_next 81 [(4, .adr 15 0), (5, .v (.slice xp.a xp.n xp.c)), (6, .v (.slice none 0 0)), (7, .v (.int .i64 (k : Int))), (8, .adr 8 0), (50, .v (.bool false))] [(8, ⟨26, r46.cs⟩), (15, ⟨100, [.slice x.a x.n x.c, .int .i64 (a43 : Int)]⟩)] ?_
        refine sw_false (by kernel_rfl) ?_
        refine sw_skip (mp_seq ?_)
        refine sw_seq ?_
        refine sw_reg ?_
        refine sy_pure 51 (.v (.slice none 0 0)) ?_
        refine sy_ldv 52 (.v (r46.v)) ty26 part_agg ?_
        refine sy_data 53 ⟨26, r46.cs⟩ 1 (fun b51 u52 e53 h54 => ?_)
        have hp55 : PolN u52 (⟨some ⟨b51, 0, none⟩, 1, 1⟩ : Sl) [(Nt.cosQ (z43 : Int))] 1 := pol_lit (L := [r46]) h54 (rats1 (h47.ext e53)) rfl (by decide)
        refine sy_app0 54 (T := 40) (E := 26) (z := .agg #[.bool false, .slice none 0 0, .slice none 0 0]) (size := 3) (bytes := 56) (b := b51) (off := 0) (m := 1) r46.cs (by kernel_rfl) (by kernel_rfl) (by kernel_rfl) (by decide) rfl (lit_news ((Ext.refl _).cells h54)) (rl_one r46) (by decide) (by decide) (by decide) ?_
        intro c56 cs56 ha56 hb56 hc56 hd56
        refine sy_pure 6 (.slc 54 0 1 c56) ?_
        refine sy_next 81 [(4, .adr 15 0), (5, .v (.slice xp.a xp.n xp.c)), (6, .slc 54 0 1 c56), (7, .v (.int .i64 (k : Int))), (8, .adr 8 0)] [(8, ⟨26, r46.cs⟩), (15, ⟨100, [.slice x.a x.n x.c, .int .i64 (a43 : Int)]⟩), (54, ⟨26, cs56⟩)] ?_
        refine sw_seq ?_
        obtain ⟨X57, hX57⟩ := spare_of (n := 1) (L := [r46]) hd56
        subst hX57
        have hRo57 : RatsN u52 ([r46]) [(Nt.cosQ (z43 : Int))] 1 := rats1 (h47.ext e53)
        refine sw_reg ?_
        refine sy_pure 55 (.adr 15 0) ?_
        have kc59 := fun (g : Nat) (w u1 : World) (e : Ext u52 u1) (d : Dat u1 w) (hg : w.heap[g]? = some (.cells (tpc x a43).toArray 100 (0, 0))) (hu : u1.heap[g]? = some hidO) => (show Calls Tryz.prog 119 (Value.pointer (some ⟨g, 0, none⟩) :: [.int .i64 3]).toArray w _ from k_tapeNext (m := 3) d hg hu (SlR.ext (hx.ext (e11.trans (e13.trans (g17.ext.trans (e21.trans (e24.trans (e27.trans (g31.ext.trans (e33.trans (g37.ext.trans (e39.trans (e41.trans (e43.trans (e45.trans (g49.ext.trans e53))))))))))))))) e) hb ha43 (by decide) (by decide))
        refine sy_lendP 56 119 (t := 15) (V := ⟨100, [.slice x.a x.n x.c, .int .i64 (a43 : Int)]⟩) [.int .i64 3] (by kernel_rfl) kc59 ?_
        clear kc59
        rintro v58 V58 u58 e58 ⟨z58, a58, rfl, hz58, rfl, ha58⟩
        refine sy_eq 12 (x := .v (.int .i64 ((z58 : Int)))) (.v (.int .i64 (((z58 + 1 : Nat) : Int) - 1))) (eqI (by omega)) ?_
        refine sy_next 81 [(4, .adr 15 0), (5, .v (.slice xp.a xp.n xp.c)), (6, .slc 54 0 1 c56), (7, .v (.int .i64 (k : Int))), (8, .adr 8 0), (12, .v (.int .i64 (((z58 + 1 : Nat) : Int) - 1)))] [(8, ⟨26, r46.cs⟩), (15, ⟨100, [.slice x.a x.n x.c, .int .i64 (a58 : Int)]⟩), (54, ⟨26, rcs ([r46]) ++ X57⟩)] ?_
        refine sw_block ?_
        refine sw_loop (I := fun m60 S' u' => ∃ (kk : Nat) (xq : Sl) (pm : List Rat), (m60 = kk) ∧ (kk ≤ z58 + 1) ∧ (Nt.RSz pm (3 * (3 - k) + (z58 + 1 - kk))) ∧ (S' = St.of 81 [(4, .adr 15 0), (5, .v (.slice xq.a xq.n xq.c)), (6, .slc 54 0 1 c56), (7, .v (.int .i64 (k : Int))), (8, .adr 8 0), (12, .v (.int .i64 ((kk : Int) - 1)))] [(8, ⟨26, r46.cs⟩), (15, ⟨100, [.slice x.a x.n x.c, .int .i64 (a58 : Int)]⟩), (54, ⟨26, rcs ([r46]) ++ X57⟩)]) ∧ (Ext u58 u') ∧ (PolN u' xq pm 2)) (fun m S u1 u2 e h => by obtain ⟨kk, xq, pm, hm, p0, p1, hS, hE, f0⟩ := h; exact ⟨kk, xq, pm, hm, p0, p1, hS, hE.trans e, f0.ext e⟩) _ (T := St.of 81 [(4, .adr 15 0), (5, .v (.slice xp.a xp.n xp.c)), (6, .slc 54 0 1 c56), (7, .v (.int .i64 (k : Int))), (8, .adr 8 0), (12, .v (.int .i64 (((z58 + 1 : Nat) : Int) - 1)))] [(8, ⟨26, r46.cs⟩), (15, ⟨100, [.slice x.a x.n x.c, .int .i64 (a58 : Int)]⟩), (54, ⟨26, rcs ([r46]) ++ X57⟩)]) (by exact weak_mk _ _ _) ⟨z58 + 1, xp, pl, rfl, by omega, (by rw [Nat.sub_self]; exact hRz), rfl, Ext.refl _, (hP9.ext (e43.trans (e45.trans (g49.ext.trans (e53.trans e58)))))⟩ ?_
        rintro m60 _ u60 ⟨kk, xq, pm, hm60, hkk, hRm, rfl, e60, hPq⟩
        have hlq := hPq.len
        have hzz := hz58
        refine sw_seq ?_
        refine sw_seq ?_
        refine sw_reg ?_
        refine sy_pure 57 (.v (.int .i64 ((kk : Int) - 1))) ?_
        refine sy_pure 58 (.v (.bool (decide ((0 : Int) ≤ ((kk : Int) - 1))))) ?_
        refine sy_next 81 [(4, .adr 15 0), (5, .v (.slice xq.a xq.n xq.c)), (6, .slc 54 0 1 c56), (7, .v (.int .i64 (k : Int))), (8, .adr 8 0), (12, .v (.int .i64 ((kk : Int) - 1))), (58, .v (.bool (decide ((0 : Int) ≤ ((kk : Int) - 1)))))] [(8, ⟨26, r46.cs⟩), (15, ⟨100, [.slice x.a x.n x.c, .int .i64 (a58 : Int)]⟩), (54, ⟨26, rcs ([r46]) ++ X57⟩)] ?_
        refine sw_cond (b := decide ((0 : Int) ≤ ((kk : Int) - 1))) (by kernel_rfl) (fun hb61 => ?_) (fun hb61 => ?_)
        · replace hb61 : (decide ((0 : Int) ≤ ((kk : Int) - 1))) = true := hb61
          have qhb61 := of_decide_eq_true hb61
          refine sw_skip (mp_seq ?_)
          refine sw_seq ?_
          refine sw_block ?_
          refine sw_reg ?_
          refine sy_pure 61 (.v (.slice xq.a xq.n xq.c)) ?_
          refine sy_ldv 62 (.v (r46.v)) ty26 part_agg ?_
          refine sy_call 63 110 [r46.v] ?_
          intro w62 u62 e62 d62
          have k67 := k_rqNeg d62 (h47.ext (e53.trans (e58.trans (e60.trans e62)))).raw (by omega)
          with_reducible refine Post.mono k67 ?_
          clear k67
          rintro _ u65 g66 ⟨r63, rfl, h64⟩
          refine sy_call 64 41 [.int .i64 1] ?_
          intro w68 u68 e68 d68
          have k73 := k_rqOf d68 (z := 1) (by omega) (by omega)
          with_reducible refine Post.mono k73 ?_
          clear k73
          rintro _ u71 g72 ⟨r69, rfl, h70⟩
          refine sy_data 65 ⟨26, r63.cs ++ r69.cs⟩ 2 (fun b74 u75 e76 h77 => ?_)
          have hp78 : PolN u75 (⟨some ⟨b74, 0, none⟩, 2, 2⟩ : Sl) [(-(Nt.cosQ (z43 : Int))), ((1 : Int) : Rat)] (max 1 2) := pol_lit (L := [r63, r69]) h77 (rats2 (RatN.more (L := (max 1 2)) (h64.ext (e68.trans (g72.ext.trans e76))) (by omega)) (RatN.more (L := (max 1 2)) (h70.ext e76) (by omega))) rfl (by decide)
          refine sy_call 66 96 [.slice xq.a xq.n xq.c, .slice (some ⟨b74, 0, none⟩) 2 2] ?_
          intro w79 u79 e79 d79
          have k84 := k_r5Mul d79 (PolV.more (K' := 5) (hPq.ext (e62.trans (g66.ext.trans (e68.trans (g72.ext.trans (e76.trans e79)))))).raw (by omega)) (PolV.more (K' := 5) (hp78.ext e79).raw (by omega)) (Nat.le_trans (Nt.kk_mono (Nat.le_refl _) (Nat.mul_le_mul (show _ ≤ 12 by have h9 := hRm.1; omega) (Nat.le_refl _))) (show Nt.kk (5 + 5 + 3) (12 * 2) ≤ 20000000 by decide)) (by decide) (by decide) (by have h9 := hRm.1; omega) (show 2 ≤ 100000000 by decide)
          with_reducible refine Post.mono k84 ?_
          clear k84
          rintro _ u82 g83 ⟨y80, rfl, h81⟩
          refine sy_pure 5 (.v (.slice y80.a y80.n y80.c)) ?_
          refine sy_end ?_
          refine mp_seq ?_
          refine sw_reg ?_
          refine sy_pure 59 (.v (.int .i64 ((kk : Int) - 1))) ?_
          refine sy_eq 60 (x := .v (.int .i64 (IntKind.i64.wrap (((kk : Int) - 1) - 1)))) (.v (.int .i64 (((kk - 1 : Nat) : Int) - 1))) (eqI (by rw [IntWalk.i64_in _ (by omega)]; omega)) ?_
          refine sy_pure 12 (.v (.int .i64 (((kk - 1 : Nat) : Int) - 1))) ?_
          refine sy_end ?_
          have hRn : Nt.RSz (Nt.trimQ (Nt.mulQ pm [(-(Nt.cosQ (z43 : Int))), ((1 : Int) : Rat)])) (3 * (3 - k) + (z58 + 1 - (kk - 1))) := (Nt.RSz.lin hRm (Nt.cosQ_wh _)).more (by omega)
          refine ⟨_, ?_, St.of 81 [(4, .adr 15 0), (5, .v (.slice y80.a y80.n y80.c)), (6, .slc 54 0 1 c56), (7, .v (.int .i64 (k : Int))), (8, .adr 8 0), (12, .v (.int .i64 (((kk - 1 : Nat) : Int) - 1)))] [(8, ⟨26, r46.cs⟩), (15, ⟨100, [.slice x.a x.n x.c, .int .i64 (a58 : Int)]⟩), (54, ⟨26, rcs ([r46]) ++ X57⟩)], by exact weak_mk _ _ _, kk - 1, y80, (Nt.trimQ (Nt.mulQ pm [(-(Nt.cosQ (z43 : Int))), ((1 : Int) : Rat)])), rfl, by omega, hRn, rfl, (e60.trans (e62.trans (g66.ext.trans (e68.trans (g72.ext.trans (e76.trans (e79.trans g83.ext))))))), (PolN.fitRS h81 hRn (by omega))⟩
          omega
        · replace hb61 : (decide ((0 : Int) ≤ ((kk : Int) - 1))) = false := hb61
          have qhb61 := of_decide_eq_false hb61
          refine sw_exit ?_
          refine mp_seq ?_
          refine sw_reg ?_
          refine sy_pure 31 (.v (.int .i64 (k : Int))) ?_
          refine sy_eq 32 (x := .v (.int .i64 (IntKind.i64.wrap ((k : Int) - 1)))) (.v (.int .i64 ((k - 1 : Nat) : Int))) (eqI (by rw [IntWalk.i64_in _ (by omega)]; omega)) ?_
          refine sy_pure 7 (.v (.int .i64 ((k - 1 : Nat) : Int))) ?_
          refine sy_end ?_
          refine ⟨_, ?_, St.of 81 [(4, .adr 15 0), (5, .v (.slice xq.a xq.n xq.c)), (6, .slc 54 0 1 c56), (7, .v (.int .i64 ((k - 1 : Nat) : Int)))] [(15, ⟨100, [.slice x.a x.n x.c, .int .i64 (a58 : Int)]⟩), (54, ⟨26, rcs ([r46]) ++ X57⟩)], by exact weak_mk _ _ _, .inr ⟨k - 1, xq, _, a58, ([r46]), X57, (1), c56, [(Nt.cosQ (z43 : Int))], rfl, by omega, ha58, (Nt.RSz.more hRm (by omega)), by simp, by omega, by omega, hc56, ha56, hb56, rfl, (e41.trans (e43.trans (e45.trans (g49.ext.trans (e53.trans (e58.trans e60)))))), hPq, (hRo57.ext (e58.trans e60))⟩⟩
          omega
      · replace hb42 : (decide ((0 : Int) < (k : Int))) = false := hb42
        have qhb42 := of_decide_eq_false hb42
        refine sw_exit ?_
        refine mp_seq ?_
        refine sw_seq ?_
        refine sw_seq ?_
        have hk0 : k = 0 := by omega
        refine sw_reg ?_
        refine sy_pure 67 (.adr 15 0) ?_
        have kc86 := fun (g : Nat) (w u1 : World) (e : Ext u41 u1) (d : Dat u1 w) (hg : w.heap[g]? = some (.cells (tpc x a9).toArray 100 (0, 0))) (hu : u1.heap[g]? = some hidO) => (show Calls Tryz.prog 119 (Value.pointer (some ⟨g, 0, none⟩) :: [.int .i64 2]).toArray w _ from k_tapeNext (m := 2) d hg hu (SlR.ext (hx.ext (e11.trans (e13.trans (g17.ext.trans (e21.trans (e24.trans (e27.trans (g31.ext.trans (e33.trans (g37.ext.trans (e39.trans e41))))))))))) e) hb ha9 (by decide) (by decide))
        refine sy_lendP 68 119 (t := 15) (V := ⟨100, [.slice x.a x.n x.c, .int .i64 (a9 : Int)]⟩) [.int .i64 2] (by kernel_rfl) kc86 ?_
        clear kc86
        rintro v85 V85 u85 e85 ⟨z85, a85, rfl, hz85, rfl, ha85⟩
        refine sy_pure 69 (.v (.bool ((z85 : Int) == 1))) ?_
        refine sy_next 81 [(4, .adr 15 0), (5, .v (.slice xp.a xp.n xp.c)), (6, .v (.slice none 0 0)), (69, .v (.bool ((z85 : Int) == 1)))] [(15, ⟨100, [.slice x.a x.n x.c, .int .i64 (a85 : Int)]⟩)] ?_
        refine sw_cond (b := (z85 : Int) == 1) (by kernel_rfl) (fun hb87 => ?_) (fun hb87 => ?_)
        · replace hb87 : ((z85 : Int) == 1) = true := hb87
          have qhb87 : (z85 : Int) = 1 := by simpa using hb87
          refine sw_reg ?_
          refine sy_pure 70 (.v (.slice xp.a xp.n xp.c)) ?_
          refine sy_pure 71 (.adr 15 0) ?_
          have kc89 := fun (g : Nat) (w u1 : World) (e : Ext u85 u1) (d : Dat u1 w) (hg : w.heap[g]? = some (.cells (tpc x a85).toArray 100 (0, 0))) (hu : u1.heap[g]? = some hidO) => (show Calls Tryz.prog 119 (Value.pointer (some ⟨g, 0, none⟩) :: [.int .i64 4]).toArray w _ from k_tapeNext (m := 4) d hg hu (SlR.ext (hx.ext (e11.trans (e13.trans (g17.ext.trans (e21.trans (e24.trans (e27.trans (g31.ext.trans (e33.trans (g37.ext.trans (e39.trans (e41.trans e85)))))))))))) e) hb ha85 (by decide) (by decide))
          refine sy_lendP 72 119 (t := 15) (V := ⟨100, [.slice x.a x.n x.c, .int .i64 (a85 : Int)]⟩) [.int .i64 4] (by kernel_rfl) kc89 ?_
          clear kc89
          rintro v88 V88 u88 e88 ⟨z88, a88, rfl, hz88, rfl, ha88⟩
          refine sy_eq 73 (x := .v (.int .i64 (IntKind.i64.wrap ((1 : Int) + (z88 : Int))))) (.v (.int .i64 ((1 + z88 : Nat) : Int))) (eqI (by rw [IntWalk.i64_in _ (by omega)]; omega)) ?_
          refine sy_call 74 49 [.int .i64 ((1 + z88 : Nat) : Int), .int .i64 16] ?_
          intro w90 u90 e90 d90
          have k95 := k_rqFrac d90 (a := ((1 + z88 : Nat) : Int)) (b := 16) (by omega) (by omega) (by omega) (by omega)
          with_reducible refine Post.mono k95 ?_
          clear k95
          rintro _ u93 g94 ⟨r91, rfl, h92⟩
          refine sy_call 75 41 [.int .i64 0] ?_
          intro w96 u96 e96 d96
          have k101 := k_rqOf d96 (z := 0) (by omega) (by omega)
          with_reducible refine Post.mono k101 ?_
          clear k101
          rintro _ u99 g100 ⟨r97, rfl, h98⟩
          refine sy_call 76 41 [.int .i64 1] ?_
          intro w102 u102 e102 d102
          have k107 := k_rqOf d102 (z := 1) (by omega) (by omega)
          with_reducible refine Post.mono k107 ?_
          clear k107
          rintro _ u105 g106 ⟨r103, rfl, h104⟩
          refine sy_data 77 ⟨26, r91.cs ++ r97.cs ++ r103.cs⟩ 3 (fun b108 u109 e110 h111 => ?_)
          have hp112 : PolN u109 (⟨some ⟨b108, 0, none⟩, 3, 3⟩ : Sl) [(((((1 + z88 : Nat) : Int) : Int) : Rat) / ((16 : Int) : Rat)), ((0 : Int) : Rat), ((1 : Int) : Rat)] (max (max 3 2) 2) := pol_lit (L := [r91, r97, r103]) h111 (rats3 (RatN.more (L := (max (max 3 2) 2)) (h92.ext (e96.trans (g100.ext.trans (e102.trans (g106.ext.trans e110))))) (by omega)) (RatN.more (L := (max (max 3 2) 2)) (h98.ext (e102.trans (g106.ext.trans e110))) (by omega)) (RatN.more (L := (max (max 3 2) 2)) (h104.ext e110) (by omega))) rfl (by decide)
          refine sy_call 78 96 [.slice xp.a xp.n xp.c, .slice (some ⟨b108, 0, none⟩) 3 3] ?_
          intro w113 u113 e113 d113
          have k118 := k_r5Mul d113 (PolV.more (K' := 5) (hP9.ext (e85.trans (e88.trans (e90.trans (g94.ext.trans (e96.trans (g100.ext.trans (e102.trans (g106.ext.trans (e110.trans e113)))))))))).raw (by omega)) (PolV.more (K' := 5) (hp112.ext e113).raw (by omega)) (Nat.le_trans (Nt.kk_mono (Nat.le_refl _) (Nat.mul_le_mul (show _ ≤ 12 by have h9 := hRz.1; omega) (Nat.le_refl _))) (show Nt.kk (5 + 5 + 3) (12 * 3) ≤ 20000000 by decide)) (by decide) (by decide) (by have h9 := hRz.1; omega) (show 3 ≤ 100000000 by decide)
          with_reducible refine Post.mono k118 ?_
          clear k118
          rintro _ u116 g117 ⟨y114, rfl, h115⟩
          refine sy_pure 5 (.v (.slice y114.a y114.n y114.c)) ?_
          refine sy_next 81 [(5, .v (.slice y114.a y114.n y114.c)), (6, .v (.slice none 0 0))] [] ?_
          refine sw_seq ?_
          refine sw_reg ?_
          refine sy_pure 79 (.v (.slice y114.a y114.n y114.c)) ?_
          refine sy_pure 80 (.v (.slice none 0 0)) ?_
          refine sy_pure 2 (.v (.slice y114.a y114.n y114.c)) ?_
          refine sy_pure 3 (.v (.slice none 0 0)) ?_
          refine sy_next 81 [(2, .v (.slice y114.a y114.n y114.c)), (3, .v (.slice none 0 0))] [] ?_
          refine sw_ret (ret0 [.slice y114.a y114.n y114.c, .slice none 0 0] ⟨res_tmp, res_tmp, trivial⟩ fun u119 e120 => ?_)
          have hfin : Nt.RFin (Nt.trimQ (Nt.mulQ pl [(((((1 + z88 : Nat) : Int) : Int) : Rat) / ((16 : Int) : Rat)), ((0 : Int) : Rat), ((1 : Int) : Rat)])) := (Nt.RSz.quad (hRz.more (by omega)) (Nt.quad_wh hz88))
          exact ⟨y114, ⟨none, 0, 0⟩, _, [], rfl, PolN.fitRF (h115.ext e120) hfin, (pol_nil _ 1), hfin⟩
        · replace hb87 : ((z85 : Int) == 1) = false := hb87
          have qhb87 : ¬ ((z85 : Int) = 1) := by simpa using hb87
          refine sw_skip (mp_seq ?_)
          refine sw_seq ?_
          refine sw_reg ?_
          refine sy_pure 79 (.v (.slice xp.a xp.n xp.c)) ?_
          refine sy_pure 80 (.v (.slice none 0 0)) ?_
          refine sy_pure 2 (.v (.slice xp.a xp.n xp.c)) ?_
          refine sy_pure 3 (.v (.slice none 0 0)) ?_
          refine sy_next 81 [(2, .v (.slice xp.a xp.n xp.c)), (3, .v (.slice none 0 0))] [] ?_
          refine sw_ret (ret0 [.slice xp.a xp.n xp.c, .slice none 0 0] ⟨res_tmp, res_tmp, trivial⟩ fun u121 e122 => ?_)
          have hfin : Nt.RFin pl := (Nt.RSz.fin (hRz.more (by omega)))
          exact ⟨xp, ⟨none, 0, 0⟩, _, [], rfl, PolN.fitRF (hP9.ext (e85.trans e122)) hfin, (pol_nil _ 1), hfin⟩
    · change SW _ _ _ _ (St.of 81 [(4, .adr 15 0), (5, .v (.slice xp.a xp.n xp.c)), (6, .slc 54 0 n9 cp), (7, .v (.int .i64 (k : Int)))] [(15, ⟨100, [.slice x.a x.n x.c, .int .i64 (a9 : Int)]⟩), (54, ⟨26, rcs L ++ X⟩)]) _ _
      have hmx8 := hmx9
      unfold maxLen at hmx8
      have hrl := hRo.1
      have hlp := hP9.len
      refine sw_seq ?_
      refine sw_seq ?_
      refine sw_reg ?_
      refine sy_pure 29 (.v (.int .i64 (k : Int))) ?_
      refine sy_pure 30 (.v (.bool (decide ((0 : Int) < (k : Int))))) ?_
      refine sy_next 81 [(4, .adr 15 0), (5, .v (.slice xp.a xp.n xp.c)), (6, .slc 54 0 n9 cp), (7, .v (.int .i64 (k : Int))), (30, .v (.bool (decide ((0 : Int) < (k : Int)))))] [(15, ⟨100, [.slice x.a x.n x.c, .int .i64 (a9 : Int)]⟩), (54, ⟨26, rcs L ++ X⟩)] ?_
      refine sw_cond (b := decide ((0 : Int) < (k : Int))) (by kernel_rfl) (fun hb123 => ?_) (fun hb123 => ?_)
      · replace hb123 : (decide ((0 : Int) < (k : Int))) = true := hb123
        have qhb123 := of_decide_eq_true hb123
        refine sw_skip (mp_seq ?_)
        refine sw_seq ?_
        refine sw_block ?_
        refine sw_seq ?_
        refine sw_reg ?_
        refine sy_pure 33 (.adr 15 0) ?_
        have kc125 := fun (g : Nat) (w u1 : World) (e : Ext u41 u1) (d : Dat u1 w) (hg : w.heap[g]? = some (.cells (tpc x a9).toArray 100 (0, 0))) (hu : u1.heap[g]? = some hidO) => (show Calls Tryz.prog 119 (Value.pointer (some ⟨g, 0, none⟩) :: [.int .i64 25]).toArray w _ from k_tapeNext (m := 25) d hg hu (SlR.ext (hx.ext (e11.trans (e13.trans (g17.ext.trans (e21.trans (e24.trans (e27.trans (g31.ext.trans (e33.trans (g37.ext.trans (e39.trans e41))))))))))) e) hb ha9 (by decide) (by decide))
        refine sy_lendP 34 119 (t := 15) (V := ⟨100, [.slice x.a x.n x.c, .int .i64 (a9 : Int)]⟩) [.int .i64 25] (by kernel_rfl) kc125 ?_
        clear kc125
        rintro v124 V124 u124 e124 ⟨z124, a124, rfl, hz124, rfl, ha124⟩
        refine sy_call 35 120 [.int .i64 (z124 : Int)] ?_
        intro w126 u126 e126 d126
        have k131 := k_cos d126 (n := (z124 : Int)) (by omega) (by omega)
        with_reducible refine Post.mono k131 ?_
        clear k131
        rintro _ u129 g130 ⟨r127, rfl, h128⟩
        refine sy_new 8 ⟨26, [.bool false, .slice none 0 0, .slice none 0 0]⟩ ?_
        refine sy_store ⟨26, r127.cs⟩ ty26 ?_
        refine sy_next 81 [(4, .adr 15 0), (5, .v (.slice xp.a xp.n xp.c)), (6, .slc 54 0 n9 cp), (7, .v (.int .i64 (k : Int))), (8, .adr 8 0)] [(8, ⟨26, r127.cs⟩), (15, ⟨100, [.slice x.a x.n x.c, .int .i64 (a124 : Int)]⟩), (54, ⟨26, rcs L ++ X⟩)] ?_
        refine sw_seq ?_
        refine sw_reg ?_
        refine sy_pure 9 (.v (.bool false)) ?_
        refine sy_next 81 [(4, .adr 15 0), (5, .v (.slice xp.a xp.n xp.c)), (6, .slc 54 0 n9 cp), (7, .v (.int .i64 (k : Int))), (8, .adr 8 0), (9, .v (.bool false))] [(8, ⟨26, r127.cs⟩), (15, ⟨100, [.slice x.a x.n x.c, .int .i64 (a124 : Int)]⟩), (54, ⟨26, rcs L ++ X⟩)] ?_
        refine sw_seq ?_
        refine sw_seq ?_
        refine sw_reg ?_
        refine sy_pure 36 (.slc 54 0 n9 cp) ?_
        refine sy_pure 37 (.v (.int .i64 (n9 : Int))) ?_
        refine sy_pure 38 (.v (.int .i64 0)) ?_
        refine sy_next 81 [(4, .adr 15 0), (5, .v (.slice xp.a xp.n xp.c)), (6, .slc 54 0 n9 cp), (7, .v (.int .i64 (k : Int))), (8, .adr 8 0), (9, .v (.bool false)), (36, .slc 54 0 n9 cp), (37, .v (.int .i64 (n9 : Int))), (38, .v (.int .i64 0))] [(8, ⟨26, r127.cs⟩), (15, ⟨100, [.slice x.a x.n x.c, .int .i64 (a124 : Int)]⟩), (54, ⟨26, rcs L ++ X⟩)] ?_
        refine sw_block ?_
        refine sw_loop (I := fun m132 S' u' => ∃ (q : Nat) (bb : Bool), (m132 = n9 - q) ∧ (q ≤ n9) ∧ (S' = St.of 81 [(4, .adr 15 0), (5, .v (.slice xp.a xp.n xp.c)), (6, .slc 54 0 n9 cp), (7, .v (.int .i64 (k : Int))), (8, .adr 8 0), (9, .v (.bool bb)), (36, .slc 54 0 n9 cp), (37, .v (.int .i64 (n9 : Int))), (38, .v (.int .i64 (q : Int)))] [(8, ⟨26, r127.cs⟩), (15, ⟨100, [.slice x.a x.n x.c, .int .i64 (a124 : Int)]⟩), (54, ⟨26, rcs L ++ X⟩)]) ∧ (Ext u129 u')) (fun m S u1 u2 e h => by obtain ⟨q, bb, hm, p0, hS, hE⟩ := h; exact ⟨q, bb, hm, p0, hS, hE.trans e⟩) _ (T := St.of 81 [(4, .adr 15 0), (5, .v (.slice xp.a xp.n xp.c)), (6, .slc 54 0 n9 cp), (7, .v (.int .i64 (k : Int))), (8, .adr 8 0), (9, .v (.bool false)), (36, .slc 54 0 n9 cp), (37, .v (.int .i64 (n9 : Int))), (38, .v (.int .i64 0))] [(8, ⟨26, r127.cs⟩), (15, ⟨100, [.slice x.a x.n x.c, .int .i64 (a124 : Int)]⟩), (54, ⟨26, rcs L ++ X⟩)]) (by exact weak_mk _ _ _) ⟨0, false, rfl, by omega, rfl, Ext.refl _⟩ ?_
        rintro m132 _ u132 ⟨q, bb, hm132, hq, rfl, e132⟩
        refine sw_seq ?_
        refine sw_reg ?_
        refine sy_pure 39 (.v (.bool (decide ((q : Int) < (n9 : Int))))) ?_
        refine sy_next 81 [(4, .adr 15 0), (5, .v (.slice xp.a xp.n xp.c)), (6, .slc 54 0 n9 cp), (7, .v (.int .i64 (k : Int))), (8, .adr 8 0), (9, .v (.bool bb)), (36, .slc 54 0 n9 cp), (37, .v (.int .i64 (n9 : Int))), (38, .v (.int .i64 (q : Int))), (39, .v (.bool (decide ((q : Int) < (n9 : Int)))))] [(8, ⟨26, r127.cs⟩), (15, ⟨100, [.slice x.a x.n x.c, .int .i64 (a124 : Int)]⟩), (54, ⟨26, rcs L ++ X⟩)] ?_
        refine sw_seq ?_
        refine sw_cond (b := decide ((q : Int) < (n9 : Int))) (by kernel_rfl) (fun hb133 => ?_) (fun hb133 => ?_)
        · replace hb133 : (decide ((q : Int) < (n9 : Int))) = true := hb133
          have qhb133 := of_decide_eq_true hb133
          refine sw_skip (mp_seq ?_)
          refine sw_seq ?_
          refine sw_block ?_
          refine sw_seq ?_
          refine sw_reg ?_
          refine sy_idxO 40 (off' := q * 3) (n := n9) (off := 0) (sz := 3) (i := (q : Int)) sl40 (by omega) (by omega) (by omega) ?_
          obtain ⟨r134, hrr134⟩ : ∃ r : RL, (L).getD q rl0 = r := ⟨_, rfl⟩
          refine sy_ldv 41 (V := ⟨26, rcs L ++ X⟩) (off := q * 3) (.v r134.v) ty26 (by have h9 := part_rcsX (X := X) (L := L) (i := q) (off := q * 3) (by first | omega | (simp; omega)) rfl; rw [hrr134] at h9; exact h9) ?_
          have h135 := (hRo.ext (e124.trans (e126.trans (g130.ext.trans e132)))).2 q (by first | omega | (simp; omega))
          rw [hrr134] at h135
          refine sy_new 11 ⟨26, [.bool false, .slice none 0 0, .slice none 0 0]⟩ ?_
          refine sy_store ⟨26, r134.cs⟩ ty26 ?_
          refine sy_next 81 [(4, .adr 15 0), (5, .v (.slice xp.a xp.n xp.c)), (6, .slc 54 0 n9 cp), (7, .v (.int .i64 (k : Int))), (8, .adr 8 0), (9, .v (.bool bb)), (11, .adr 11 0), (36, .slc 54 0 n9 cp), (37, .v (.int .i64 (n9 : Int))), (38, .v (.int .i64 (q : Int)))] [(8, ⟨26, r127.cs⟩), (11, ⟨26, r134.cs⟩), (15, ⟨100, [.slice x.a x.n x.c, .int .i64 (a124 : Int)]⟩), (54, ⟨26, rcs L ++ X⟩)] ?_
          refine sw_reg ?_
          refine sy_pure 42 (.v (.bool bb)) ?_
          rcases Bool.eq_false_or_eq_true bb with hs136 | hs136
          · refine sy_eq 43 (x := .v (.bool bb)) (.v (.bool true)) (by rw [hs136]) ?_
            refine sy_drop 44 (uw 1 false true 43) ?_
            refine sy_drop 45 (uw 1 false true 43) ?_
            refine sy_drop 46 (uw 1 false true 43) ?_
            refine sy_drop 47 (uw 1 false true 43) ?_
            refine sy_pure 48 (.v (.bool true)) ?_
            refine sy_pure 9 (.v (.bool true)) ?_
            refine sy_end ?_
            refine mp_seq ?_
            refine sw_reg ?_
            refine sy_eq 49 (x := .v (.int .i64 (IntKind.i64.wrap ((q : Int) + 1)))) (.v (.int .i64 ((q + 1 : Nat) : Int))) (eqI (by rw [IntWalk.i64_in _ (by omega)]; omega)) ?_
            refine sy_pure 38 (.v (.int .i64 ((q + 1 : Nat) : Int))) ?_
            refine sy_end ?_
            refine ⟨_, ?_, St.of 81 [(4, .adr 15 0), (5, .v (.slice xp.a xp.n xp.c)), (6, .slc 54 0 n9 cp), (7, .v (.int .i64 (k : Int))), (8, .adr 8 0), (9, .v (.bool true)), (36, .slc 54 0 n9 cp), (37, .v (.int .i64 (n9 : Int))), (38, .v (.int .i64 ((q + 1 : Nat) : Int)))] [(8, ⟨26, r127.cs⟩), (15, ⟨100, [.slice x.a x.n x.c, .int .i64 (a124 : Int)]⟩), (54, ⟨26, rcs L ++ X⟩)], by exact weak_mk _ _ _, q + 1, true, rfl, by omega, rfl, e132⟩
            omega
          · refine sy_eq 43 (x := .v (.bool bb)) (.v (.bool false)) (by rw [hs136]) ?_
            refine sy_ldv 44 (.v (r127.v)) ty26 part_agg ?_ (hw := w1 1 false 43)
            refine sy_ldv 45 (.v (r134.v)) ty26 part_agg ?_ (hw := w1 1 false 43)
            refine sy_call 46 40 [r127.v, r134.v] ?_ (hw := w1 1 false 43)
            intro w137 u137 e137 d137
            have k140 := k_rqCompare d137 (h128.ext (e132.trans e137)).raw (h135.ext e137).raw (by omega) (by omega)
            with_reducible refine Post.mono k140 ?_
            clear k140
            rintro _ u138 g139 rfl
            refine sy_pure 47 (.v (.bool ((Nt.cmpQ (Nt.cosQ (z124 : Int)) (rs.getD q 0)) == 0))) ?_ (hw := w1 1 false 43)
            refine sy_pure 48 (.v (.bool ((Nt.cmpQ (Nt.cosQ (z124 : Int)) (rs.getD q 0)) == 0))) ?_
            refine sy_pure 9 (.v (.bool ((Nt.cmpQ (Nt.cosQ (z124 : Int)) (rs.getD q 0)) == 0))) ?_
            refine sy_end ?_
            refine mp_seq ?_
            refine sw_reg ?_
            refine sy_eq 49 (x := .v (.int .i64 (IntKind.i64.wrap ((q : Int) + 1)))) (.v (.int .i64 ((q + 1 : Nat) : Int))) (eqI (by rw [IntWalk.i64_in _ (by omega)]; omega)) ?_
            refine sy_pure 38 (.v (.int .i64 ((q + 1 : Nat) : Int))) ?_
            refine sy_end ?_
            refine ⟨_, ?_, St.of 81 [(4, .adr 15 0), (5, .v (.slice xp.a xp.n xp.c)), (6, .slc 54 0 n9 cp), (7, .v (.int .i64 (k : Int))), (8, .adr 8 0), (9, .v (.bool ((Nt.cmpQ (Nt.cosQ (z124 : Int)) (rs.getD q 0)) == 0))), (36, .slc 54 0 n9 cp), (37, .v (.int .i64 (n9 : Int))), (38, .v (.int .i64 ((q + 1 : Nat) : Int)))] [(8, ⟨26, r127.cs⟩), (15, ⟨100, [.slice x.a x.n x.c, .int .i64 (a124 : Int)]⟩), (54, ⟨26, rcs L ++ X⟩)], by exact weak_mk _ _ _, q + 1, (Nt.cmpQ (Nt.cosQ (z124 : Int)) (rs.getD q 0)) == 0, rfl, by omega, rfl, (e132.trans (e137.trans g139.ext))⟩
            omega
        · replace hb133 : (decide ((q : Int) < (n9 : Int))) = false := hb133
          have qhb133 := of_decide_eq_false hb133
          refine sw_exit ?_
          refine mp_seq ?_
          refine sw_seq ?_
          refine sw_seq ?_
          refine sw_reg ?_
          refine sy_pure 50 (.v (.bool bb)) ?_
          refine sy_next 81 [(4, .adr 15 0), (5, .v (.slice xp.a xp.n xp.c)), (6, .slc 54 0 n9 cp), (7, .v (.int .i64 (k : Int))), (8, .adr 8 0), (50, .v (.bool bb))] [(8, ⟨26, r127.cs⟩), (15, ⟨100, [.slice x.a x.n x.c, .int .i64 (a124 : Int)]⟩), (54, ⟨26, rcs L ++ X⟩)] ?_
          refine sw_cond (b := bb) (by kernel_rfl) (fun hb141 => ?_) (fun hb141 => ?_)
          · replace hb141 : bb = true := hb141
            refine sw_exit ?_
            refine mp_seq ?_
            refine sw_reg ?_
            refine sy_pure 31 (.v (.int .i64 (k : Int))) ?_
            refine sy_eq 32 (x := .v (.int .i64 (IntKind.i64.wrap ((k : Int) - 1)))) (.v (.int .i64 ((k - 1 : Nat) : Int))) (eqI (by rw [IntWalk.i64_in _ (by omega)]; omega)) ?_
            refine sy_pure 7 (.v (.int .i64 ((k - 1 : Nat) : Int))) ?_
            refine sy_end ?_
            refine ⟨_, ?_, St.of 81 [(4, .adr 15 0), (5, .v (.slice xp.a xp.n xp.c)), (6, .slc 54 0 n9 cp), (7, .v (.int .i64 ((k - 1 : Nat) : Int)))] [(15, ⟨100, [.slice x.a x.n x.c, .int .i64 (a124 : Int)]⟩), (54, ⟨26, rcs L ++ X⟩)], by exact weak_mk _ _ _, .inr ⟨k - 1, xp, _, a124, L, X, n9, cp, rs, rfl, by omega, ha124, (Nt.RSz.more hRz (by omega)), hL9, hn0, by omega, hc9, hle9, hmx9, rfl, (e41.trans (e124.trans (e126.trans (g130.ext.trans e132)))), (hP9.ext (e124.trans (e126.trans (g130.ext.trans e132)))), (hRo.ext (e124.trans (e126.trans (g130.ext.trans e132))))⟩⟩
            omega
          · replace hb141 : bb = false := hb141
            refine sw_skip (mp_seq ?_)
            refine sw_seq ?_
            have ht9 : (rcs L ++ X).take (n9 * 3) = rcs L := by rw [← hL9, ← rcs_len, List.take_left]
            refine sw_reg ?_
            refine sy_pure 51 (.slc 54 0 n9 cp) ?_
            refine sy_ldv 52 (.v (r127.v)) ty26 part_agg ?_
            refine sy_data 53 ⟨26, r127.cs⟩ 1 (fun b142 u143 e144 h145 => ?_)
            have hp146 : PolN u143 (⟨some ⟨b142, 0, none⟩, 1, 1⟩ : Sl) [(Nt.cosQ (z124 : Int))] 1 := pol_lit (L := [r127]) h145 (rats1 (h128.ext (e132.trans e144))) rfl (by decide)
            refine sy_app1 54 (T := 40) (E := 26) (z := .agg #[.bool false, .slice none 0 0, .slice none 0 0]) (size := 3) (bytes := 56) (b := b142) (off := 0) (m := 1) (n := n9) (cap := cp) (t := 54) (cs0 := (rcs L ++ X)) [6, 51, 54] r127.cs (by kernel_rfl) (by kernel_rfl) (by kernel_rfl) (by decide) rfl (lit_news ((Ext.refl _).cells h145)) (rl_one r127) (by decide) (by unfold maxLen; omega) (by omega) (by omega) (by omega) (by omega) (by repeat first | exact noAt_of | refine noAt_set ?_ | refine noAt_lit ?_ | refine noAt_new ?_ | refine noAt_setVar ?_ | refine noAt_unpub ?_) ?_
            intro c147 cs147 ha147 hb147 hc147 hd147
            have hd147r : cs147.take ((n9 + 1) * 3) = rcs (L ++ [r127]) := by rw [hd147, ht9, rcs_app]; rfl
            refine sy_pure 6 (.slc 54 0 (n9 + 1) c147) ?_
            refine sy_next 81 [(4, .adr 15 0), (5, .v (.slice xp.a xp.n xp.c)), (6, .slc 54 0 (n9 + 1) c147), (7, .v (.int .i64 (k : Int))), (8, .adr 8 0)] [(8, ⟨26, r127.cs⟩), (15, ⟨100, [.slice x.a x.n x.c, .int .i64 (a124 : Int)]⟩), (54, ⟨26, cs147⟩)] ?_
            refine sw_seq ?_
            obtain ⟨X148, hX148⟩ := spare_of (n := n9 + 1) (L := L ++ [r127]) hd147r
            subst hX148
            have hRo148 : RatsN u143 (L ++ [r127]) (rs ++ [(Nt.cosQ (z124 : Int))]) 1 := RatsN.snoc (hRo.ext (e124.trans (e126.trans (g130.ext.trans (e132.trans e144))))) (h128.ext (e132.trans e144))
            refine sw_reg ?_
            refine sy_pure 55 (.adr 15 0) ?_
            have kc150 := fun (g : Nat) (w u1 : World) (e : Ext u143 u1) (d : Dat u1 w) (hg : w.heap[g]? = some (.cells (tpc x a124).toArray 100 (0, 0))) (hu : u1.heap[g]? = some hidO) => (show Calls Tryz.prog 119 (Value.pointer (some ⟨g, 0, none⟩) :: [.int .i64 3]).toArray w _ from k_tapeNext (m := 3) d hg hu (SlR.ext (hx.ext (e11.trans (e13.trans (g17.ext.trans (e21.trans (e24.trans (e27.trans (g31.ext.trans (e33.trans (g37.ext.trans (e39.trans (e41.trans (e124.trans (e126.trans (g130.ext.trans (e132.trans e144)))))))))))))))) e) hb ha124 (by decide) (by decide))
            refine sy_lendP 56 119 (t := 15) (V := ⟨100, [.slice x.a x.n x.c, .int .i64 (a124 : Int)]⟩) [.int .i64 3] (by kernel_rfl) kc150 ?_
            clear kc150
            rintro v149 V149 u149 e149 ⟨z149, a149, rfl, hz149, rfl, ha149⟩
            refine sy_eq 12 (x := .v (.int .i64 ((z149 : Int)))) (.v (.int .i64 (((z149 + 1 : Nat) : Int) - 1))) (eqI (by omega)) ?_
            refine sy_next 81 [(4, .adr 15 0), (5, .v (.slice xp.a xp.n xp.c)), (6, .slc 54 0 (n9 + 1) c147), (7, .v (.int .i64 (k : Int))), (8, .adr 8 0), (12, .v (.int .i64 (((z149 + 1 : Nat) : Int) - 1)))] [(8, ⟨26, r127.cs⟩), (15, ⟨100, [.slice x.a x.n x.c, .int .i64 (a149 : Int)]⟩), (54, ⟨26, rcs (L ++ [r127]) ++ X148⟩)] ?_
            refine sw_block ?_
            refine sw_loop (I := fun m151 S' u' => ∃ (kk : Nat) (xq : Sl) (pm : List Rat), (m151 = kk) ∧ (kk ≤ z149 + 1) ∧ (Nt.RSz pm (3 * (3 - k) + (z149 + 1 - kk))) ∧ (S' = St.of 81 [(4, .adr 15 0), (5, .v (.slice xq.a xq.n xq.c)), (6, .slc 54 0 (n9 + 1) c147), (7, .v (.int .i64 (k : Int))), (8, .adr 8 0), (12, .v (.int .i64 ((kk : Int) - 1)))] [(8, ⟨26, r127.cs⟩), (15, ⟨100, [.slice x.a x.n x.c, .int .i64 (a149 : Int)]⟩), (54, ⟨26, rcs (L ++ [r127]) ++ X148⟩)]) ∧ (Ext u149 u') ∧ (PolN u' xq pm 2)) (fun m S u1 u2 e h => by obtain ⟨kk, xq, pm, hm, p0, p1, hS, hE, f0⟩ := h; exact ⟨kk, xq, pm, hm, p0, p1, hS, hE.trans e, f0.ext e⟩) _ (T := St.of 81 [(4, .adr 15 0), (5, .v (.slice xp.a xp.n xp.c)), (6, .slc 54 0 (n9 + 1) c147), (7, .v (.int .i64 (k : Int))), (8, .adr 8 0), (12, .v (.int .i64 (((z149 + 1 : Nat) : Int) - 1)))] [(8, ⟨26, r127.cs⟩), (15, ⟨100, [.slice x.a x.n x.c, .int .i64 (a149 : Int)]⟩), (54, ⟨26, rcs (L ++ [r127]) ++ X148⟩)]) (by exact weak_mk _ _ _) ⟨z149 + 1, xp, pl, rfl, by omega, (by rw [Nat.sub_self]; exact hRz), rfl, Ext.refl _, (hP9.ext (e124.trans (e126.trans (g130.ext.trans (e132.trans (e144.trans e149))))))⟩ ?_
            rintro m151 _ u151 ⟨kk, xq, pm, hm151, hkk, hRm, rfl, e151, hPq⟩
            have hlq := hPq.len
            have hzz := hz149
            refine sw_seq ?_
            refine sw_seq ?_
            refine sw_reg ?_
            refine sy_pure 57 (.v (.int .i64 ((kk : Int) - 1))) ?_
            refine sy_pure 58 (.v (.bool (decide ((0 : Int) ≤ ((kk : Int) - 1))))) ?_
            refine sy_next 81 [(4, .adr 15 0), (5, .v (.slice xq.a xq.n xq.c)), (6, .slc 54 0 (n9 + 1) c147), (7, .v (.int .i64 (k : Int))), (8, .adr 8 0), (12, .v (.int .i64 ((kk : Int) - 1))), (58, .v (.bool (decide ((0 : Int) ≤ ((kk : Int) - 1)))))] [(8, ⟨26, r127.cs⟩), (15, ⟨100, [.slice x.a x.n x.c, .int .i64 (a149 : Int)]⟩), (54, ⟨26, rcs (L ++ [r127]) ++ X148⟩)] ?_
            refine sw_cond (b := decide ((0 : Int) ≤ ((kk : Int) - 1))) (by kernel_rfl) (fun hb152 => ?_) (fun hb152 => ?_)
            · replace hb152 : (decide ((0 : Int) ≤ ((kk : Int) - 1))) = true := hb152
              have qhb152 := of_decide_eq_true hb152
              refine sw_skip (mp_seq ?_)
              refine sw_seq ?_
              refine sw_block ?_
              refine sw_reg ?_
              refine sy_pure 61 (.v (.slice xq.a xq.n xq.c)) ?_
              refine sy_ldv 62 (.v (r127.v)) ty26 part_agg ?_
              refine sy_call 63 110 [r127.v] ?_
              intro w153 u153 e153 d153
              have k158 := k_rqNeg d153 (h128.ext (e132.trans (e144.trans (e149.trans (e151.trans e153))))).raw (by omega)
              with_reducible refine Post.mono k158 ?_
              clear k158
              rintro _ u156 g157 ⟨r154, rfl, h155⟩
              refine sy_call 64 41 [.int .i64 1] ?_
              intro w159 u159 e159 d159
              have k164 := k_rqOf d159 (z := 1) (by omega) (by omega)
              with_reducible refine Post.mono k164 ?_
              clear k164
              rintro _ u162 g163 ⟨r160, rfl, h161⟩
              refine sy_data 65 ⟨26, r154.cs ++ r160.cs⟩ 2 (fun b165 u166 e167 h168 => ?_)
              have hp169 : PolN u166 (⟨some ⟨b165, 0, none⟩, 2, 2⟩ : Sl) [(-(Nt.cosQ (z124 : Int))), ((1 : Int) : Rat)] (max 1 2) := pol_lit (L := [r154, r160]) h168 (rats2 (RatN.more (L := (max 1 2)) (h155.ext (e159.trans (g163.ext.trans e167))) (by omega)) (RatN.more (L := (max 1 2)) (h161.ext e167) (by omega))) rfl (by decide)
              refine sy_call 66 96 [.slice xq.a xq.n xq.c, .slice (some ⟨b165, 0, none⟩) 2 2] ?_
              intro w170 u170 e170 d170
              have k175 := k_r5Mul d170 (PolV.more (K' := 5) (hPq.ext (e153.trans (g157.ext.trans (e159.trans (g163.ext.trans (e167.trans e170)))))).raw (by omega)) (PolV.more (K' := 5) (hp169.ext e170).raw (by omega)) (Nat.le_trans (Nt.kk_mono (Nat.le_refl _) (Nat.mul_le_mul (show _ ≤ 12 by have h9 := hRm.1; omega) (Nat.le_refl _))) (show Nt.kk (5 + 5 + 3) (12 * 2) ≤ 20000000 by decide)) (by decide) (by decide) (by have h9 := hRm.1; omega) (show 2 ≤ 100000000 by decide)
              with_reducible refine Post.mono k175 ?_
              clear k175
              rintro _ u173 g174 ⟨y171, rfl, h172⟩
              refine sy_pure 5 (.v (.slice y171.a y171.n y171.c)) ?_
              refine sy_end ?_
              refine mp_seq ?_
              refine sw_reg ?_
              refine sy_pure 59 (.v (.int .i64 ((kk : Int) - 1))) ?_
              refine sy_eq 60 (x := .v (.int .i64 (IntKind.i64.wrap (((kk : Int) - 1) - 1)))) (.v (.int .i64 (((kk - 1 : Nat) : Int) - 1))) (eqI (by rw [IntWalk.i64_in _ (by omega)]; omega)) ?_
              refine sy_pure 12 (.v (.int .i64 (((kk - 1 : Nat) : Int) - 1))) ?_
              refine sy_end ?_
              have hRn : Nt.RSz (Nt.trimQ (Nt.mulQ pm [(-(Nt.cosQ (z124 : Int))), ((1 : Int) : Rat)])) (3 * (3 - k) + (z149 + 1 - (kk - 1))) := (Nt.RSz.lin hRm (Nt.cosQ_wh _)).more (by omega)
              refine ⟨_, ?_, St.of 81 [(4, .adr 15 0), (5, .v (.slice y171.a y171.n y171.c)), (6, .slc 54 0 (n9 + 1) c147), (7, .v (.int .i64 (k : Int))), (8, .adr 8 0), (12, .v (.int .i64 (((kk - 1 : Nat) : Int) - 1)))] [(8, ⟨26, r127.cs⟩), (15, ⟨100, [.slice x.a x.n x.c, .int .i64 (a149 : Int)]⟩), (54, ⟨26, rcs (L ++ [r127]) ++ X148⟩)], by exact weak_mk _ _ _, kk - 1, y171, (Nt.trimQ (Nt.mulQ pm [(-(Nt.cosQ (z124 : Int))), ((1 : Int) : Rat)])), rfl, by omega, hRn, rfl, (e151.trans (e153.trans (g157.ext.trans (e159.trans (g163.ext.trans (e167.trans (e170.trans g174.ext))))))), (PolN.fitRS h172 hRn (by omega))⟩
              omega
            · replace hb152 : (decide ((0 : Int) ≤ ((kk : Int) - 1))) = false := hb152
              have qhb152 := of_decide_eq_false hb152
              refine sw_exit ?_
              refine mp_seq ?_
              refine sw_reg ?_
              refine sy_pure 31 (.v (.int .i64 (k : Int))) ?_
              refine sy_eq 32 (x := .v (.int .i64 (IntKind.i64.wrap ((k : Int) - 1)))) (.v (.int .i64 ((k - 1 : Nat) : Int))) (eqI (by rw [IntWalk.i64_in _ (by omega)]; omega)) ?_
              refine sy_pure 7 (.v (.int .i64 ((k - 1 : Nat) : Int))) ?_
              refine sy_end ?_
              refine ⟨_, ?_, St.of 81 [(4, .adr 15 0), (5, .v (.slice xq.a xq.n xq.c)), (6, .slc 54 0 (n9 + 1) c147), (7, .v (.int .i64 ((k - 1 : Nat) : Int)))] [(15, ⟨100, [.slice x.a x.n x.c, .int .i64 (a149 : Int)]⟩), (54, ⟨26, rcs (L ++ [r127]) ++ X148⟩)], by exact weak_mk _ _ _, .inr ⟨k - 1, xq, _, a149, (L ++ [r127]), X148, (n9 + 1), c147, (rs ++ [(Nt.cosQ (z124 : Int))]), rfl, by omega, ha149, (Nt.RSz.more hRm (by omega)), by simp; omega, by omega, by omega, hc147, ha147, hb147, rfl, (e41.trans (e124.trans (e126.trans (g130.ext.trans (e132.trans (e144.trans (e149.trans e151))))))), hPq, (hRo148.ext (e149.trans e151))⟩⟩
              omega
      · replace hb123 : (decide ((0 : Int) < (k : Int))) = false := hb123
        have qhb123 := of_decide_eq_false hb123
        refine sw_exit ?_
        refine mp_seq ?_
        refine sw_seq ?_
        refine sw_seq ?_
        have hk0 : k = 0 := by omega
        refine sw_reg ?_
        refine sy_pure 67 (.adr 15 0) ?_
        have kc177 := fun (g : Nat) (w u1 : World) (e : Ext u41 u1) (d : Dat u1 w) (hg : w.heap[g]? = some (.cells (tpc x a9).toArray 100 (0, 0))) (hu : u1.heap[g]? = some hidO) => (show Calls Tryz.prog 119 (Value.pointer (some ⟨g, 0, none⟩) :: [.int .i64 2]).toArray w _ from k_tapeNext (m := 2) d hg hu (SlR.ext (hx.ext (e11.trans (e13.trans (g17.ext.trans (e21.trans (e24.trans (e27.trans (g31.ext.trans (e33.trans (g37.ext.trans (e39.trans e41))))))))))) e) hb ha9 (by decide) (by decide))
        refine sy_lendP 68 119 (t := 15) (V := ⟨100, [.slice x.a x.n x.c, .int .i64 (a9 : Int)]⟩) [.int .i64 2] (by kernel_rfl) kc177 ?_
        clear kc177
        rintro v176 V176 u176 e176 ⟨z176, a176, rfl, hz176, rfl, ha176⟩
        refine sy_pure 69 (.v (.bool ((z176 : Int) == 1))) ?_
        refine sy_next 81 [(4, .adr 15 0), (5, .v (.slice xp.a xp.n xp.c)), (6, .slc 54 0 n9 cp), (69, .v (.bool ((z176 : Int) == 1)))] [(15, ⟨100, [.slice x.a x.n x.c, .int .i64 (a176 : Int)]⟩), (54, ⟨26, rcs L ++ X⟩)] ?_
        refine sw_cond (b := (z176 : Int) == 1) (by kernel_rfl) (fun hb178 => ?_) (fun hb178 => ?_)
        · replace hb178 : ((z176 : Int) == 1) = true := hb178
          have qhb178 : (z176 : Int) = 1 := by simpa using hb178
          refine sw_reg ?_
          refine sy_pure 70 (.v (.slice xp.a xp.n xp.c)) ?_
          refine sy_pure 71 (.adr 15 0) ?_
          have kc180 := fun (g : Nat) (w u1 : World) (e : Ext u176 u1) (d : Dat u1 w) (hg : w.heap[g]? = some (.cells (tpc x a176).toArray 100 (0, 0))) (hu : u1.heap[g]? = some hidO) => (show Calls Tryz.prog 119 (Value.pointer (some ⟨g, 0, none⟩) :: [.int .i64 4]).toArray w _ from k_tapeNext (m := 4) d hg hu (SlR.ext (hx.ext (e11.trans (e13.trans (g17.ext.trans (e21.trans (e24.trans (e27.trans (g31.ext.trans (e33.trans (g37.ext.trans (e39.trans (e41.trans e176)))))))))))) e) hb ha176 (by decide) (by decide))
          refine sy_lendP 72 119 (t := 15) (V := ⟨100, [.slice x.a x.n x.c, .int .i64 (a176 : Int)]⟩) [.int .i64 4] (by kernel_rfl) kc180 ?_
          clear kc180
          rintro v179 V179 u179 e179 ⟨z179, a179, rfl, hz179, rfl, ha179⟩
          refine sy_eq 73 (x := .v (.int .i64 (IntKind.i64.wrap ((1 : Int) + (z179 : Int))))) (.v (.int .i64 ((1 + z179 : Nat) : Int))) (eqI (by rw [IntWalk.i64_in _ (by omega)]; omega)) ?_
          refine sy_call 74 49 [.int .i64 ((1 + z179 : Nat) : Int), .int .i64 16] ?_
          intro w181 u181 e181 d181
          have k186 := k_rqFrac d181 (a := ((1 + z179 : Nat) : Int)) (b := 16) (by omega) (by omega) (by omega) (by omega)
          with_reducible refine Post.mono k186 ?_
          clear k186
          rintro _ u184 g185 ⟨r182, rfl, h183⟩
          refine sy_call 75 41 [.int .i64 0] ?_
          intro w187 u187 e187 d187
          have k192 := k_rqOf d187 (z := 0) (by omega) (by omega)
          with_reducible refine Post.mono k192 ?_
          clear k192
          rintro _ u190 g191 ⟨r188, rfl, h189⟩
          refine sy_call 76 41 [.int .i64 1] ?_
          intro w193 u193 e193 d193
          have k198 := k_rqOf d193 (z := 1) (by omega) (by omega)
          with_reducible refine Post.mono k198 ?_
          clear k198
          rintro _ u196 g197 ⟨r194, rfl, h195⟩
          refine sy_data 77 ⟨26, r182.cs ++ r188.cs ++ r194.cs⟩ 3 (fun b199 u200 e201 h202 => ?_)
          have hp203 : PolN u200 (⟨some ⟨b199, 0, none⟩, 3, 3⟩ : Sl) [(((((1 + z179 : Nat) : Int) : Int) : Rat) / ((16 : Int) : Rat)), ((0 : Int) : Rat), ((1 : Int) : Rat)] (max (max 3 2) 2) := pol_lit (L := [r182, r188, r194]) h202 (rats3 (RatN.more (L := (max (max 3 2) 2)) (h183.ext (e187.trans (g191.ext.trans (e193.trans (g197.ext.trans e201))))) (by omega)) (RatN.more (L := (max (max 3 2) 2)) (h189.ext (e193.trans (g197.ext.trans e201))) (by omega)) (RatN.more (L := (max (max 3 2) 2)) (h195.ext e201) (by omega))) rfl (by decide)
          refine sy_call 78 96 [.slice xp.a xp.n xp.c, .slice (some ⟨b199, 0, none⟩) 3 3] ?_
          intro w204 u204 e204 d204
          have k209 := k_r5Mul d204 (PolV.more (K' := 5) (hP9.ext (e176.trans (e179.trans (e181.trans (g185.ext.trans (e187.trans (g191.ext.trans (e193.trans (g197.ext.trans (e201.trans e204)))))))))).raw (by omega)) (PolV.more (K' := 5) (hp203.ext e204).raw (by omega)) (Nat.le_trans (Nt.kk_mono (Nat.le_refl _) (Nat.mul_le_mul (show _ ≤ 12 by have h9 := hRz.1; omega) (Nat.le_refl _))) (show Nt.kk (5 + 5 + 3) (12 * 3) ≤ 20000000 by decide)) (by decide) (by decide) (by have h9 := hRz.1; omega) (show 3 ≤ 100000000 by decide)
          with_reducible refine Post.mono k209 ?_
          clear k209
          rintro _ u207 g208 ⟨y205, rfl, h206⟩
          refine sy_pure 5 (.v (.slice y205.a y205.n y205.c)) ?_
          refine sy_next 81 [(5, .v (.slice y205.a y205.n y205.c)), (6, .slc 54 0 n9 cp)] [(54, ⟨26, rcs L ++ X⟩)] ?_
          refine sw_seq ?_
          refine sw_pub (r := 6) (t := 54) [6, 54] (by repeat first | exact noAt_of | refine noAt_set ?_ | refine noAt_lit ?_ | refine noAt_new ?_ | refine noAt_setVar ?_ | refine noAt_unpub ?_) (by kernel_rfl) (by rfl) (by rfl) (by kernel_rfl) (fun b210 u211 e212 hb213 hh214 => ?_)
          have hp215 : PolN u211 ⟨some ⟨b210, 0, none⟩, n9, cp⟩ rs 1 := pol_data (cs := rcs L ++ X) (n := n9) (c := cp) hh214 (by rw [← hL9, ← rcs_len, List.take_left]) hc9 hle9 hmx9 (hRo.ext (e176.trans (e179.trans (e181.trans (g185.ext.trans (e187.trans (g191.ext.trans (e193.trans (g197.ext.trans (e201.trans (e204.trans (g208.ext.trans e212))))))))))))
          refine sw_reg ?_
          refine sy_pure 79 (.v (.slice y205.a y205.n y205.c)) ?_
          refine sy_pure 80 (.v (.slice (some ⟨b210, 0, none⟩) n9 cp)) ?_
          refine sy_pure 2 (.v (.slice y205.a y205.n y205.c)) ?_
          refine sy_pure 3 (.v (.slice (some ⟨b210, 0, none⟩) n9 cp)) ?_
          refine sy_next 81 [(2, .v (.slice y205.a y205.n y205.c)), (3, .v (.slice (some ⟨b210, 0, none⟩) n9 cp))] [] ?_
          refine sw_ret (ret0 [.slice y205.a y205.n y205.c, .slice (some ⟨b210, 0, none⟩) n9 cp] ⟨res_tmp, res_tmp, trivial⟩ fun u216 e217 => ?_)
          have hfin : Nt.RFin (Nt.trimQ (Nt.mulQ pl [(((((1 + z179 : Nat) : Int) : Int) : Rat) / ((16 : Int) : Rat)), ((0 : Int) : Rat), ((1 : Int) : Rat)])) := (Nt.RSz.quad (hRz.more (by omega)) (Nt.quad_wh hz179))
          exact ⟨y205, (⟨some ⟨b210, 0, none⟩, n9, cp⟩ : Sl), _, rs, rfl, PolN.fitRF (h206.ext (e212.trans e217)) hfin, (hp215.ext e217), hfin⟩
        · replace hb178 : ((z176 : Int) == 1) = false := hb178
          have qhb178 : ¬ ((z176 : Int) = 1) := by simpa using hb178
          refine sw_skip (mp_seq ?_)
          refine sw_seq ?_
          refine sw_pub (r := 6) (t := 54) [6, 54] (by repeat first | exact noAt_of | refine noAt_set ?_ | refine noAt_lit ?_ | refine noAt_new ?_ | refine noAt_setVar ?_ | refine noAt_unpub ?_) (by kernel_rfl) (by rfl) (by rfl) (by kernel_rfl) (fun b218 u219 e220 hb221 hh222 => ?_)
          have hp223 : PolN u219 ⟨some ⟨b218, 0, none⟩, n9, cp⟩ rs 1 := pol_data (cs := rcs L ++ X) (n := n9) (c := cp) hh222 (by rw [← hL9, ← rcs_len, List.take_left]) hc9 hle9 hmx9 (hRo.ext (e176.trans e220))
          refine sw_reg ?_
          refine sy_pure 79 (.v (.slice xp.a xp.n xp.c)) ?_
          refine sy_pure 80 (.v (.slice (some ⟨b218, 0, none⟩) n9 cp)) ?_
          refine sy_pure 2 (.v (.slice xp.a xp.n xp.c)) ?_
          refine sy_pure 3 (.v (.slice (some ⟨b218, 0, none⟩) n9 cp)) ?_
          refine sy_next 81 [(2, .v (.slice xp.a xp.n xp.c)), (3, .v (.slice (some ⟨b218, 0, none⟩) n9 cp))] [] ?_
          refine sw_ret (ret0 [.slice xp.a xp.n xp.c, .slice (some ⟨b218, 0, none⟩) n9 cp] ⟨res_tmp, res_tmp, trivial⟩ fun u224 e225 => ?_)
          have hfin : Nt.RFin pl := (Nt.RSz.fin (hRz.more (by omega)))
          exact ⟨xp, (⟨some ⟨b218, 0, none⟩, n9, cp⟩ : Sl), _, rs, rfl, PolN.fitRF (hP9.ext (e176.trans (e220.trans e225))) hfin, (hp223.ext e225), hfin⟩
  · replace hb26 : ((z24 : Int) == 1) = false := hb26
    have qhb26 : ¬ ((z24 : Int) = 1) := by simpa using hb26
    refine sw_skip (mp_seq ?_)
    refine sw_seq ?_
    refine sw_reg ?_
    refine sy_pure 6 (.v (.slice none 0 0)) ?_
    refine sy_next 81 [(4, .adr 15 0), (5, .v (.slice (some ⟨b19, 0, none⟩) 1 1)), (6, .v (.slice none 0 0))] [(15, ⟨100, [.slice x.a x.n x.c, .int .i64 (a24 : Int)]⟩)] ?_
    refine sw_seq ?_
    refine sw_seq ?_
    refine sw_reg ?_
    refine sy_pure 27 (.adr 15 0) ?_
    have kc227 := fun (g : Nat) (w u1 : World) (e : Ext u24 u1) (d : Dat u1 w) (hg : w.heap[g]? = some (.cells (tpc x a24).toArray 100 (0, 0))) (hu : u1.heap[g]? = some hidO) => (show Calls Tryz.prog 119 (Value.pointer (some ⟨g, 0, none⟩) :: [.int .i64 4]).toArray w _ from k_tapeNext (m := 4) d hg hu (SlR.ext (hx.ext (e11.trans (e13.trans (g17.ext.trans (e21.trans e24))))) e) hb ha24 (by decide) (by decide))
    refine sy_lendP 28 119 (t := 15) (V := ⟨100, [.slice x.a x.n x.c, .int .i64 (a24 : Int)]⟩) [.int .i64 4] (by kernel_rfl) kc227 ?_
    clear kc227
    rintro v226 V226 u226 e226 ⟨z226, a226, rfl, hz226, rfl, ha226⟩
    refine sy_pure 7 (.v (.int .i64 (z226 : Int))) ?_
    refine sy_next 81 [(4, .adr 15 0), (5, .v (.slice (some ⟨b19, 0, none⟩) 1 1)), (6, .v (.slice none 0 0)), (7, .v (.int .i64 (z226 : Int)))] [(15, ⟨100, [.slice x.a x.n x.c, .int .i64 (a226 : Int)]⟩)] ?_
    refine sw_block ?_
    refine sw_loop (I := fun m228 S' u' => (∃ (k : Nat) (xp : Sl) (pl : List Rat) (a9 : Nat), m228 = k ∧ k ≤ 3 ∧ a9 ≤ x.n ∧ Nt.RSz pl (3 * (3 - k)) ∧ S' = St.of 81 [(4, .adr 15 0), (5, .v (.slice xp.a xp.n xp.c)), (6, .v (.slice none 0 0)), (7, .v (.int .i64 (k : Int)))] [(15, ⟨100, [.slice x.a x.n x.c, .int .i64 (a9 : Int)]⟩)] ∧ Ext u226 u' ∧ PolN u' xp pl 2) ∨ (∃ (k : Nat) (xp : Sl) (pl : List Rat) (a9 : Nat) (L : List RL) (X : List Value) (n9 cp : Nat) (rs : List Rat), m228 = k ∧ k ≤ 3 ∧ a9 ≤ x.n ∧ Nt.RSz pl (3 * (3 - k)) ∧ L.length = n9 ∧ 0 < n9 ∧ n9 ≤ 3 - k ∧ (rcs L ++ X).length = cp * 3 ∧ n9 ≤ cp ∧ cp ≤ maxLen ∧ S' = St.of 81 [(4, .adr 15 0), (5, .v (.slice xp.a xp.n xp.c)), (6, .slc 54 0 n9 cp), (7, .v (.int .i64 (k : Int)))] [(15, ⟨100, [.slice x.a x.n x.c, .int .i64 (a9 : Int)]⟩), (54, ⟨26, rcs L ++ X⟩)] ∧ Ext u226 u' ∧ PolN u' xp pl 2 ∧ RatsN u' L rs 1)) (fun m S u1 u2 e h => by rcases h with ⟨a1, a2, a3, a4, b1, b2, b3, b4, b5, b6, b7⟩ | ⟨a1, a2, a3, a4, a5, a6, a7, a8, a9, b1, b2, b3, b4, b5, b6, b7, b8, b9, c1, c2, c3, c4, c5⟩; exact .inl ⟨a1, a2, a3, a4, b1, b2, b3, b4, b5, b6.trans e, b7.ext e⟩; exact .inr ⟨a1, a2, a3, a4, a5, a6, a7, a8, a9, b1, b2, b3, b4, b5, b6, b7, b8, b9, c1, c2, c3.trans e, c4.ext e, c5.ext e⟩) _ (T := St.of 81 [(4, .adr 15 0), (5, .v (.slice (some ⟨b19, 0, none⟩) 1 1)), (6, .v (.slice none 0 0)), (7, .v (.int .i64 (z226 : Int)))] [(15, ⟨100, [.slice x.a x.n x.c, .int .i64 (a226 : Int)]⟩)]) (by exact weak_mk _ _ _) (.inl ⟨z226, (⟨some ⟨b19, 0, none⟩, 1, 1⟩ : Sl), _, a226, rfl, by omega, by omega, (Nt.RSz.more hr0 (Nat.zero_le _)), rfl, Ext.refl _, (PolN.fitRS (hp23.ext (e24.trans e226)) hr0 (by decide))⟩) ?_
    rintro m228 _ u228 (⟨k, xp, pl, a9, hm9, hk3, ha9, hRz, rfl, e228, hP9⟩ | ⟨k, xp, pl, a9, L, X, n9, cp, rs, hm9, hk3, ha9, hRz, hL9, hn0, hn3, hc9, hle9, hmx9, rfl, e228, hP9, hRo⟩)
    · change SW _ _ _ _ (St.of 81 [(4, .adr 15 0), (5, .v (.slice xp.a xp.n xp.c)), (6, .v (.slice none 0 0)), (7, .v (.int .i64 (k : Int)))] [(15, ⟨100, [.slice x.a x.n x.c, .int .i64 (a9 : Int)]⟩)]) _ _
      have hlp := hP9.len
      refine sw_seq ?_
      refine sw_seq ?_
      refine sw_reg ?_
      refine sy_pure 29 (.v (.int .i64 (k : Int))) ?_
      refine sy_pure 30 (.v (.bool (decide ((0 : Int) < (k : Int))))) ?_
      refine sy_next 81 [(4, .adr 15 0), (5, .v (.slice xp.a xp.n xp.c)), (6, .v (.slice none 0 0)), (7, .v (.int .i64 (k : Int))), (30, .v (.bool (decide ((0 : Int) < (k : Int)))))] [(15, ⟨100, [.slice x.a x.n x.c, .int .i64 (a9 : Int)]⟩)] ?_
      refine sw_cond (b := decide ((0 : Int) < (k : Int))) (by kernel_rfl) (fun hb229 => ?_) (fun hb229 => ?_)
      · replace hb229 : (decide ((0 : Int) < (k : Int))) = true := hb229
        have qhb229 := of_decide_eq_true hb229
        refine sw_skip (mp_seq ?_)
        refine sw_seq ?_
        refine sw_block ?_
        refine sw_seq ?_
        refine sw_reg ?_
        refine sy_pure 33 (.adr 15 0) ?_
        have kc231 := fun (g : Nat) (w u1 : World) (e : Ext u228 u1) (d : Dat u1 w) (hg : w.heap[g]? = some (.cells (tpc x a9).toArray 100 (0, 0))) (hu : u1.heap[g]? = some hidO) => (show Calls Tryz.prog 119 (Value.pointer (some ⟨g, 0, none⟩) :: [.int .i64 25]).toArray w _ from k_tapeNext (m := 25) d hg hu (SlR.ext (hx.ext (e11.trans (e13.trans (g17.ext.trans (e21.trans (e24.trans (e226.trans e228))))))) e) hb ha9 (by decide) (by decide))
        refine sy_lendP 34 119 (t := 15) (V := ⟨100, [.slice x.a x.n x.c, .int .i64 (a9 : Int)]⟩) [.int .i64 25] (by kernel_rfl) kc231 ?_
        clear kc231
        rintro v230 V230 u230 e230 ⟨z230, a230, rfl, hz230, rfl, ha230⟩
        refine sy_call 35 120 [.int .i64 (z230 : Int)] ?_
        intro w232 u232 e232 d232
        have k237 := k_cos d232 (n := (z230 : Int)) (by omega) (by omega)
        with_reducible refine Post.mono k237 ?_
        clear k237
        rintro _ u235 g236 ⟨r233, rfl, h234⟩
        refine sy_new 8 ⟨26, [.bool false, .slice none 0 0, .slice none 0 0]⟩ ?_
        refine sy_store ⟨26, r233.cs⟩ ty26 ?_
        refine sy_next 81 [(4, .adr 15 0), (5, .v (.slice xp.a xp.n xp.c)), (6, .v (.slice none 0 0)), (7, .v (.int .i64 (k : Int))), (8, .adr 8 0)] [(8, ⟨26, r233.cs⟩), (15, ⟨100, [.slice x.a x.n x.c, .int .i64 (a230 : Int)]⟩)] ?_
        refine sw_seq ?_
        refine sw_reg ?_
        refine sy_pure 9 (.v (.bool false)) ?_
        refine sy_next 81 [(4, .adr 15 0), (5, .v (.slice xp.a xp.n xp.c)), (6, .v (.slice none 0 0)), (7, .v (.int .i64 (k : Int))), (8, .adr 8 0), (9, .v (.bool false))] [(8, ⟨26, r233.cs⟩), (15, ⟨100, [.slice x.a x.n x.c, .int .i64 (a230 : Int)]⟩)] ?_
        refine sw_seq ?_
        refine sw_seq ?_
        refine sw_reg ?_
        refine sy_pure 36 (.v (.slice none 0 0)) ?_
        refine sy_pure 37 (.v (.int .i64 0)) ?_
        refine sy_pure 38 (.v (.int .i64 0)) ?_
        refine sy_next 81 [(4, .adr 15 0), (5, .v (.slice xp.a xp.n xp.c)), (6, .v (.slice none 0 0)), (7, .v (.int .i64 (k : Int))), (8, .adr 8 0), (9, .v (.bool false)), (36, .v (.slice none 0 0)), (37, .v (.int .i64 0)), (38, .v (.int .i64 0))] [(8, ⟨26, r233.cs⟩), (15, ⟨100, [.slice x.a x.n x.c, .int .i64 (a230 : Int)]⟩)] ?_
        refine sw_block ?_
        refine sw_rounds 0 ?_
        refine sw_seq ?_
        refine sw_reg ?_
        refine sy_pure 39 (.v (.bool false)) ?_
        refine sy_next 81 [(4, .adr 15 0), (5, .v (.slice xp.a xp.n xp.c)), (6, .v (.slice none 0 0)), (7, .v (.int .i64 (k : Int))), (8, .adr 8 0), (9, .v (.bool false)), (36, .v (.slice none 0 0)), (37, .v (.int .i64 0)), (38, .v (.int .i64 0)), (39, .v (.bool false))] [(8, ⟨26, r233.cs⟩), (15, ⟨100, [.slice x.a x.n x.c, .int .i64 (a230 : Int)]⟩)] ?_
        refine sw_seq ?_
        refine sw_false (by kernel_rfl) ?_
        refine sw_exit ?_
        refine mp_seq ?_
        refine sw_seq ?_
        refine sw_seq ?_
        refine sw_reg ?_
        refine sy_pure 50 (.v (.bool false)) ?_
        refine sy_next 81 [(4, .adr 15 0), (5, .v (.slice xp.a xp.n xp.c)), (6, .v (.slice none 0 0)), (7, .v (.int .i64 (k : Int))), (8, .adr 8 0), (50, .v (.bool false))] [(8, ⟨26, r233.cs⟩), (15, ⟨100, [.slice x.a x.n x.c, .int .i64 (a230 : Int)]⟩)] ?_
        refine sw_false (by kernel_rfl) ?_
        refine sw_skip (mp_seq ?_)
        refine sw_seq ?_
        refine sw_reg ?_
        refine sy_pure 51 (.v (.slice none 0 0)) ?_
        refine sy_ldv 52 (.v (r233.v)) ty26 part_agg ?_
        refine sy_data 53 ⟨26, r233.cs⟩ 1 (fun b238 u239 e240 h241 => ?_)
        have hp242 : PolN u239 (⟨some ⟨b238, 0, none⟩, 1, 1⟩ : Sl) [(Nt.cosQ (z230 : Int))] 1 := pol_lit (L := [r233]) h241 (rats1 (h234.ext e240)) rfl (by decide)
        refine sy_app0 54 (T := 40) (E := 26) (z := .agg #[.bool false, .slice none 0 0, .slice none 0 0]) (size := 3) (bytes := 56) (b := b238) (off := 0) (m := 1) r233.cs (by kernel_rfl) (by kernel_rfl) (by kernel_rfl) (by decide) rfl (lit_news ((Ext.refl _).cells h241)) (rl_one r233) (by decide) (by decide) (by decide) ?_
        intro c243 cs243 ha243 hb243 hc243 hd243
        refine sy_pure 6 (.slc 54 0 1 c243) ?_
        refine sy_next 81 [(4, .adr 15 0), (5, .v (.slice xp.a xp.n xp.c)), (6, .slc 54 0 1 c243), (7, .v (.int .i64 (k : Int))), (8, .adr 8 0)] [(8, ⟨26, r233.cs⟩), (15, ⟨100, [.slice x.a x.n x.c, .int .i64 (a230 : Int)]⟩), (54, ⟨26, cs243⟩)] ?_
        refine sw_seq ?_
        obtain ⟨X244, hX244⟩ := spare_of (n := 1) (L := [r233]) hd243
        subst hX244
        have hRo244 : RatsN u239 ([r233]) [(Nt.cosQ (z230 : Int))] 1 := rats1 (h234.ext e240)
        refine sw_reg ?_
        refine sy_pure 55 (.adr 15 0) ?_
        have kc246 := fun (g : Nat) (w u1 : World) (e : Ext u239 u1) (d : Dat u1 w) (hg : w.heap[g]? = some (.cells (tpc x a230).toArray 100 (0, 0))) (hu : u1.heap[g]? = some hidO) => (show Calls Tryz.prog 119 (Value.pointer (some ⟨g, 0, none⟩) :: [.int .i64 3]).toArray w _ from k_tapeNext (m := 3) d hg hu (SlR.ext (hx.ext (e11.trans (e13.trans (g17.ext.trans (e21.trans (e24.trans (e226.trans (e228.trans (e230.trans (e232.trans (g236.ext.trans e240))))))))))) e) hb ha230 (by decide) (by decide))
        refine sy_lendP 56 119 (t := 15) (V := ⟨100, [.slice x.a x.n x.c, .int .i64 (a230 : Int)]⟩) [.int .i64 3] (by kernel_rfl) kc246 ?_
        clear kc246
        rintro v245 V245 u245 e245 ⟨z245, a245, rfl, hz245, rfl, ha245⟩
        refine sy_eq 12 (x := .v (.int .i64 ((z245 : Int)))) (.v (.int .i64 (((z245 + 1 : Nat) : Int) - 1))) (eqI (by omega)) ?_
        refine sy_next 81 [(4, .adr 15 0), (5, .v (.slice xp.a xp.n xp.c)), (6, .slc 54 0 1 c243), (7, .v (.int .i64 (k : Int))), (8, .adr 8 0), (12, .v (.int .i64 (((z245 + 1 : Nat) : Int) - 1)))] [(8, ⟨26, r233.cs⟩), (15, ⟨100, [.slice x.a x.n x.c, .int .i64 (a245 : Int)]⟩), (54, ⟨26, rcs ([r233]) ++ X244⟩)] ?_
        refine sw_block ?_
        refine sw_loop (I := fun m247 S' u' => ∃ (kk : Nat) (xq : Sl) (pm : List Rat), (m247 = kk) ∧ (kk ≤ z245 + 1) ∧ (Nt.RSz pm (3 * (3 - k) + (z245 + 1 - kk))) ∧ (S' = St.of 81 [(4, .adr 15 0), (5, .v (.slice xq.a xq.n xq.c)), (6, .slc 54 0 1 c243), (7, .v (.int .i64 (k : Int))), (8, .adr 8 0), (12, .v (.int .i64 ((kk : Int) - 1)))] [(8, ⟨26, r233.cs⟩), (15, ⟨100, [.slice x.a x.n x.c, .int .i64 (a245 : Int)]⟩), (54, ⟨26, rcs ([r233]) ++ X244⟩)]) ∧ (Ext u245 u') ∧ (PolN u' xq pm 2)) (fun m S u1 u2 e h => by obtain ⟨kk, xq, pm, hm, p0, p1, hS, hE, f0⟩ := h; exact ⟨kk, xq, pm, hm, p0, p1, hS, hE.trans e, f0.ext e⟩) _ (T := St.of 81 [(4, .adr 15 0), (5, .v (.slice xp.a xp.n xp.c)), (6, .slc 54 0 1 c243), (7, .v (.int .i64 (k : Int))), (8, .adr 8 0), (12, .v (.int .i64 (((z245 + 1 : Nat) : Int) - 1)))] [(8, ⟨26, r233.cs⟩), (15, ⟨100, [.slice x.a x.n x.c, .int .i64 (a245 : Int)]⟩), (54, ⟨26, rcs ([r233]) ++ X244⟩)]) (by exact weak_mk _ _ _) ⟨z245 + 1, xp, pl, rfl, by omega, (by rw [Nat.sub_self]; exact hRz), rfl, Ext.refl _, (hP9.ext (e230.trans (e232.trans (g236.ext.trans (e240.trans e245)))))⟩ ?_
        rintro m247 _ u247 ⟨kk, xq, pm, hm247, hkk, hRm, rfl, e247, hPq⟩
        have hlq := hPq.len
        have hzz := hz245
        refine sw_seq ?_
        refine sw_seq ?_
        refine sw_reg ?_
        refine sy_pure 57 (.v (.int .i64 ((kk : Int) - 1))) ?_
        refine sy_pure 58 (.v (.bool (decide ((0 : Int) ≤ ((kk : Int) - 1))))) ?_
        refine sy_next 81 [(4, .adr 15 0), (5, .v (.slice xq.a xq.n xq.c)), (6, .slc 54 0 1 c243), (7, .v (.int .i64 (k : Int))), (8, .adr 8 0), (12, .v (.int .i64 ((kk : Int) - 1))), (58, .v (.bool (decide ((0 : Int) ≤ ((kk : Int) - 1)))))] [(8, ⟨26, r233.cs⟩), (15, ⟨100, [.slice x.a x.n x.c, .int .i64 (a245 : Int)]⟩), (54, ⟨26, rcs ([r233]) ++ X244⟩)] ?_
        refine sw_cond (b := decide ((0 : Int) ≤ ((kk : Int) - 1))) (by kernel_rfl) (fun hb248 => ?_) (fun hb248 => ?_)
        · replace hb248 : (decide ((0 : Int) ≤ ((kk : Int) - 1))) = true := hb248
          have qhb248 := of_decide_eq_true hb248
          refine sw_skip (mp_seq ?_)
          refine sw_seq ?_
          refine sw_block ?_
          refine sw_reg ?_
          refine sy_pure 61 (.v (.slice xq.a xq.n xq.c)) ?_
          refine sy_ldv 62 (.v (r233.v)) ty26 part_agg ?_
          refine sy_call 63 110 [r233.v] ?_
          intro w249 u249 e249 d249
          have k254 := k_rqNeg d249 (h234.ext (e240.trans (e245.trans (e247.trans e249)))).raw (by omega)
          with_reducible refine Post.mono k254 ?_
          clear k254
          rintro _ u252 g253 ⟨r250, rfl, h251⟩
          refine sy_call 64 41 [.int .i64 1] ?_
          intro w255 u255 e255 d255
          have k260 := k_rqOf d255 (z := 1) (by omega) (by omega)
          with_reducible refine Post.mono k260 ?_
          clear k260
          rintro _ u258 g259 ⟨r256, rfl, h257⟩
          refine sy_data 65 ⟨26, r250.cs ++ r256.cs⟩ 2 (fun b261 u262 e263 h264 => ?_)
          have hp265 : PolN u262 (⟨some ⟨b261, 0, none⟩, 2, 2⟩ : Sl) [(-(Nt.cosQ (z230 : Int))), ((1 : Int) : Rat)] (max 1 2) := pol_lit (L := [r250, r256]) h264 (rats2 (RatN.more (L := (max 1 2)) (h251.ext (e255.trans (g259.ext.trans e263))) (by omega)) (RatN.more (L := (max 1 2)) (h257.ext e263) (by omega))) rfl (by decide)
          refine sy_call 66 96 [.slice xq.a xq.n xq.c, .slice (some ⟨b261, 0, none⟩) 2 2] ?_
          intro w266 u266 e266 d266
          have k271 := k_r5Mul d266 (PolV.more (K' := 5) (hPq.ext (e249.trans (g253.ext.trans (e255.trans (g259.ext.trans (e263.trans e266)))))).raw (by omega)) (PolV.more (K' := 5) (hp265.ext e266).raw (by omega)) (Nat.le_trans (Nt.kk_mono (Nat.le_refl _) (Nat.mul_le_mul (show _ ≤ 12 by have h9 := hRm.1; omega) (Nat.le_refl _))) (show Nt.kk (5 + 5 + 3) (12 * 2) ≤ 20000000 by decide)) (by decide) (by decide) (by have h9 := hRm.1; omega) (show 2 ≤ 100000000 by decide)
          with_reducible refine Post.mono k271 ?_
          clear k271
          rintro _ u269 g270 ⟨y267, rfl, h268⟩
          refine sy_pure 5 (.v (.slice y267.a y267.n y267.c)) ?_
          refine sy_end ?_
          refine mp_seq ?_
          refine sw_reg ?_
          refine sy_pure 59 (.v (.int .i64 ((kk : Int) - 1))) ?_
          refine sy_eq 60 (x := .v (.int .i64 (IntKind.i64.wrap (((kk : Int) - 1) - 1)))) (.v (.int .i64 (((kk - 1 : Nat) : Int) - 1))) (eqI (by rw [IntWalk.i64_in _ (by omega)]; omega)) ?_
          refine sy_pure 12 (.v (.int .i64 (((kk - 1 : Nat) : Int) - 1))) ?_
          refine sy_end ?_
          have hRn : Nt.RSz (Nt.trimQ (Nt.mulQ pm [(-(Nt.cosQ (z230 : Int))), ((1 : Int) : Rat)])) (3 * (3 - k) + (z245 + 1 - (kk - 1))) := (Nt.RSz.lin hRm (Nt.cosQ_wh _)).more (by omega)
          refine ⟨_, ?_, St.of 81 [(4, .adr 15 0), (5, .v (.slice y267.a y267.n y267.c)), (6, .slc 54 0 1 c243), (7, .v (.int .i64 (k : Int))), (8, .adr 8 0), (12, .v (.int .i64 (((kk - 1 : Nat) : Int) - 1)))] [(8, ⟨26, r233.cs⟩), (15, ⟨100, [.slice x.a x.n x.c, .int .i64 (a245 : Int)]⟩), (54, ⟨26, rcs ([r233]) ++ X244⟩)], by exact weak_mk _ _ _, kk - 1, y267, (Nt.trimQ (Nt.mulQ pm [(-(Nt.cosQ (z230 : Int))), ((1 : Int) : Rat)])), rfl, by omega, hRn, rfl, (e247.trans (e249.trans (g253.ext.trans (e255.trans (g259.ext.trans (e263.trans (e266.trans g270.ext))))))), (PolN.fitRS h268 hRn (by omega))⟩
          omega
        · replace hb248 : (decide ((0 : Int) ≤ ((kk : Int) - 1))) = false := hb248
          have qhb248 := of_decide_eq_false hb248
          refine sw_exit ?_
          refine mp_seq ?_
          refine sw_reg ?_
          refine sy_pure 31 (.v (.int .i64 (k : Int))) ?_
          refine sy_eq 32 (x := .v (.int .i64 (IntKind.i64.wrap ((k : Int) - 1)))) (.v (.int .i64 ((k - 1 : Nat) : Int))) (eqI (by rw [IntWalk.i64_in _ (by omega)]; omega)) ?_
          refine sy_pure 7 (.v (.int .i64 ((k - 1 : Nat) : Int))) ?_
          refine sy_end ?_
          refine ⟨_, ?_, St.of 81 [(4, .adr 15 0), (5, .v (.slice xq.a xq.n xq.c)), (6, .slc 54 0 1 c243), (7, .v (.int .i64 ((k - 1 : Nat) : Int)))] [(15, ⟨100, [.slice x.a x.n x.c, .int .i64 (a245 : Int)]⟩), (54, ⟨26, rcs ([r233]) ++ X244⟩)], by exact weak_mk _ _ _, .inr ⟨k - 1, xq, _, a245, ([r233]), X244, (1), c243, [(Nt.cosQ (z230 : Int))], rfl, by omega, ha245, (Nt.RSz.more hRm (by omega)), by simp, by omega, by omega, hc243, ha243, hb243, rfl, (e228.trans (e230.trans (e232.trans (g236.ext.trans (e240.trans (e245.trans e247)))))), hPq, (hRo244.ext (e245.trans e247))⟩⟩
          omega
      · replace hb229 : (decide ((0 : Int) < (k : Int))) = false := hb229
        have qhb229 := of_decide_eq_false hb229
        refine sw_exit ?_
        refine mp_seq ?_
        refine sw_seq ?_
        refine sw_seq ?_
        have hk0 : k = 0 := by omega
        refine sw_reg ?_
        refine sy_pure 67 (.adr 15 0) ?_
        have kc273 := fun (g : Nat) (w u1 : World) (e : Ext u228 u1) (d : Dat u1 w) (hg : w.heap[g]? = some (.cells (tpc x a9).toArray 100 (0, 0))) (hu : u1.heap[g]? = some hidO) => (show Calls Tryz.prog 119 (Value.pointer (some ⟨g, 0, none⟩) :: [.int .i64 2]).toArray w _ from k_tapeNext (m := 2) d hg hu (SlR.ext (hx.ext (e11.trans (e13.trans (g17.ext.trans (e21.trans (e24.trans (e226.trans e228))))))) e) hb ha9 (by decide) (by decide))
        refine sy_lendP 68 119 (t := 15) (V := ⟨100, [.slice x.a x.n x.c, .int .i64 (a9 : Int)]⟩) [.int .i64 2] (by kernel_rfl) kc273 ?_
        clear kc273
        rintro v272 V272 u272 e272 ⟨z272, a272, rfl, hz272, rfl, ha272⟩
        refine sy_pure 69 (.v (.bool ((z272 : Int) == 1))) ?_
        refine sy_next 81 [(4, .adr 15 0), (5, .v (.slice xp.a xp.n xp.c)), (6, .v (.slice none 0 0)), (69, .v (.bool ((z272 : Int) == 1)))] [(15, ⟨100, [.slice x.a x.n x.c, .int .i64 (a272 : Int)]⟩)] ?_
        refine sw_cond (b := (z272 : Int) == 1) (by kernel_rfl) (fun hb274 => ?_) (fun hb274 => ?_)
        · replace hb274 : ((z272 : Int) == 1) = true := hb274
          have qhb274 : (z272 : Int) = 1 := by simpa using hb274
          refine sw_reg ?_
          refine sy_pure 70 (.v (.slice xp.a xp.n xp.c)) ?_
          refine sy_pure 71 (.adr 15 0) ?_
          have kc276 := fun (g : Nat) (w u1 : World) (e : Ext u272 u1) (d : Dat u1 w) (hg : w.heap[g]? = some (.cells (tpc x a272).toArray 100 (0, 0))) (hu : u1.heap[g]? = some hidO) => (show Calls Tryz.prog 119 (Value.pointer (some ⟨g, 0, none⟩) :: [.int .i64 4]).toArray w _ from k_tapeNext (m := 4) d hg hu (SlR.ext (hx.ext (e11.trans (e13.trans (g17.ext.trans (e21.trans (e24.trans (e226.trans (e228.trans e272)))))))) e) hb ha272 (by decide) (by decide))
          refine sy_lendP 72 119 (t := 15) (V := ⟨100, [.slice x.a x.n x.c, .int .i64 (a272 : Int)]⟩) [.int .i64 4] (by kernel_rfl) kc276 ?_
          clear kc276
          rintro v275 V275 u275 e275 ⟨z275, a275, rfl, hz275, rfl, ha275⟩
          refine sy_eq 73 (x := .v (.int .i64 (IntKind.i64.wrap ((1 : Int) + (z275 : Int))))) (.v (.int .i64 ((1 + z275 : Nat) : Int))) (eqI (by rw [IntWalk.i64_in _ (by omega)]; omega)) ?_
          refine sy_call 74 49 [.int .i64 ((1 + z275 : Nat) : Int), .int .i64 16] ?_
          intro w277 u277 e277 d277
          have k282 := k_rqFrac d277 (a := ((1 + z275 : Nat) : Int)) (b := 16) (by omega) (by omega) (by omega) (by omega)
          with_reducible refine Post.mono k282 ?_
          clear k282
          rintro _ u280 g281 ⟨r278, rfl, h279⟩
          refine sy_call 75 41 [.int .i64 0] ?_
          intro w283 u283 e283 d283
          have k288 := k_rqOf d283 (z := 0) (by omega) (by omega)
          with_reducible refine Post.mono k288 ?_
          clear k288
          rintro _ u286 g287 ⟨r284, rfl, h285⟩
          refine sy_call 76 41 [.int .i64 1] ?_
          intro w289 u289 e289 d289
          have k294 := k_rqOf d289 (z := 1) (by omega) (by omega)
          with_reducible refine Post.mono k294 ?_
          clear k294
          rintro _ u292 g293 ⟨r290, rfl, h291⟩
          refine sy_data 77 ⟨26, r278.cs ++ r284.cs ++ r290.cs⟩ 3 (fun b295 u296 e297 h298 => ?_)
          have hp299 : PolN u296 (⟨some ⟨b295, 0, none⟩, 3, 3⟩ : Sl) [(((((1 + z275 : Nat) : Int) : Int) : Rat) / ((16 : Int) : Rat)), ((0 : Int) : Rat), ((1 : Int) : Rat)] (max (max 3 2) 2) := pol_lit (L := [r278, r284, r290]) h298 (rats3 (RatN.more (L := (max (max 3 2) 2)) (h279.ext (e283.trans (g287.ext.trans (e289.trans (g293.ext.trans e297))))) (by omega)) (RatN.more (L := (max (max 3 2) 2)) (h285.ext (e289.trans (g293.ext.trans e297))) (by omega)) (RatN.more (L := (max (max 3 2) 2)) (h291.ext e297) (by omega))) rfl (by decide)
          refine sy_call 78 96 [.slice xp.a xp.n xp.c, .slice (some ⟨b295, 0, none⟩) 3 3] ?_
          intro w300 u300 e300 d300
          have k305 := k_r5Mul d300 (PolV.more (K' := 5) (hP9.ext (e272.trans (e275.trans (e277.trans (g281.ext.trans (e283.trans (g287.ext.trans (e289.trans (g293.ext.trans (e297.trans e300)))))))))).raw (by omega)) (PolV.more (K' := 5) (hp299.ext e300).raw (by omega)) (Nat.le_trans (Nt.kk_mono (Nat.le_refl _) (Nat.mul_le_mul (show _ ≤ 12 by have h9 := hRz.1; omega) (Nat.le_refl _))) (show Nt.kk (5 + 5 + 3) (12 * 3) ≤ 20000000 by decide)) (by decide) (by decide) (by have h9 := hRz.1; omega) (show 3 ≤ 100000000 by decide)
          with_reducible refine Post.mono k305 ?_
          clear k305
          rintro _ u303 g304 ⟨y301, rfl, h302⟩
          refine sy_pure 5 (.v (.slice y301.a y301.n y301.c)) ?_
          refine sy_next 81 [(5, .v (.slice y301.a y301.n y301.c)), (6, .v (.slice none 0 0))] [] ?_
          refine sw_seq ?_
          refine sw_reg ?_
          refine sy_pure 79 (.v (.slice y301.a y301.n y301.c)) ?_
          refine sy_pure 80 (.v (.slice none 0 0)) ?_
          refine sy_pure 2 (.v (.slice y301.a y301.n y301.c)) ?_
          refine sy_pure 3 (.v (.slice none 0 0)) ?_
          refine sy_next 81 [(2, .v (.slice y301.a y301.n y301.c)), (3, .v (.slice none 0 0))] [] ?_
          refine sw_ret (ret0 [.slice y301.a y301.n y301.c, .slice none 0 0] ⟨res_tmp, res_tmp, trivial⟩ fun u306 e307 => ?_)
          have hfin : Nt.RFin (Nt.trimQ (Nt.mulQ pl [(((((1 + z275 : Nat) : Int) : Int) : Rat) / ((16 : Int) : Rat)), ((0 : Int) : Rat), ((1 : Int) : Rat)])) := (Nt.RSz.quad (hRz.more (by omega)) (Nt.quad_wh hz275))
          exact ⟨y301, ⟨none, 0, 0⟩, _, [], rfl, PolN.fitRF (h302.ext e307) hfin, (pol_nil _ 1), hfin⟩
        · replace hb274 : ((z272 : Int) == 1) = false := hb274
          have qhb274 : ¬ ((z272 : Int) = 1) := by simpa using hb274
          refine sw_skip (mp_seq ?_)
          refine sw_seq ?_
          refine sw_reg ?_
          refine sy_pure 79 (.v (.slice xp.a xp.n xp.c)) ?_
          refine sy_pure 80 (.v (.slice none 0 0)) ?_
          refine sy_pure 2 (.v (.slice xp.a xp.n xp.c)) ?_
          refine sy_pure 3 (.v (.slice none 0 0)) ?_
          refine sy_next 81 [(2, .v (.slice xp.a xp.n xp.c)), (3, .v (.slice none 0 0))] [] ?_
          refine sw_ret (ret0 [.slice xp.a xp.n xp.c, .slice none 0 0] ⟨res_tmp, res_tmp, trivial⟩ fun u308 e309 => ?_)
          have hfin : Nt.RFin pl := (Nt.RSz.fin (hRz.more (by omega)))
          exact ⟨xp, ⟨none, 0, 0⟩, _, [], rfl, PolN.fitRF (hP9.ext (e272.trans e309)) hfin, (pol_nil _ 1), hfin⟩
    · change SW _ _ _ _ (St.of 81 [(4, .adr 15 0), (5, .v (.slice xp.a xp.n xp.c)), (6, .slc 54 0 n9 cp), (7, .v (.int .i64 (k : Int)))] [(15, ⟨100, [.slice x.a x.n x.c, .int .i64 (a9 : Int)]⟩), (54, ⟨26, rcs L ++ X⟩)]) _ _
      have hmx8 := hmx9
      unfold maxLen at hmx8
      have hrl := hRo.1
      have hlp := hP9.len
      refine sw_seq ?_
      refine sw_seq ?_
      refine sw_reg ?_
      refine sy_pure 29 (.v (.int .i64 (k : Int))) ?_
      refine sy_pure 30 (.v (.bool (decide ((0 : Int) < (k : Int))))) ?_
      refine sy_next 81 [(4, .adr 15 0), (5, .v (.slice xp.a xp.n xp.c)), (6, .slc 54 0 n9 cp), (7, .v (.int .i64 (k : Int))), (30, .v (.bool (decide ((0 : Int) < (k : Int)))))] [(15, ⟨100, [.slice x.a x.n x.c, .int .i64 (a9 : Int)]⟩), (54, ⟨26, rcs L ++ X⟩)] ?_
      refine sw_cond (b := decide ((0 : Int) < (k : Int))) (by kernel_rfl) (fun hb310 => ?_) (fun hb310 => ?_)
      · replace hb310 : (decide ((0 : Int) < (k : Int))) = true := hb310
        have qhb310 := of_decide_eq_true hb310
        refine sw_skip (mp_seq ?_)
        refine sw_seq ?_
        refine sw_block ?_
        refine sw_seq ?_
        refine sw_reg ?_
        refine sy_pure 33 (.adr 15 0) ?_
        have kc312 := fun (g : Nat) (w u1 : World) (e : Ext u228 u1) (d : Dat u1 w) (hg : w.heap[g]? = some (.cells (tpc x a9).toArray 100 (0, 0))) (hu : u1.heap[g]? = some hidO) => (show Calls Tryz.prog 119 (Value.pointer (some ⟨g, 0, none⟩) :: [.int .i64 25]).toArray w _ from k_tapeNext (m := 25) d hg hu (SlR.ext (hx.ext (e11.trans (e13.trans (g17.ext.trans (e21.trans (e24.trans (e226.trans e228))))))) e) hb ha9 (by decide) (by decide))
        refine sy_lendP 34 119 (t := 15) (V := ⟨100, [.slice x.a x.n x.c, .int .i64 (a9 : Int)]⟩) [.int .i64 25] (by kernel_rfl) kc312 ?_
        clear kc312
        rintro v311 V311 u311 e311 ⟨z311, a311, rfl, hz311, rfl, ha311⟩
        refine sy_call 35 120 [.int .i64 (z311 : Int)] ?_
        intro w313 u313 e313 d313
        have k318 := k_cos d313 (n := (z311 : Int)) (by omega) (by omega)
        with_reducible refine Post.mono k318 ?_
        clear k318
        rintro _ u316 g317 ⟨r314, rfl, h315⟩
        refine sy_new 8 ⟨26, [.bool false, .slice none 0 0, .slice none 0 0]⟩ ?_
        refine sy_store ⟨26, r314.cs⟩ ty26 ?_
        refine sy_next 81 [(4, .adr 15 0), (5, .v (.slice xp.a xp.n xp.c)), (6, .slc 54 0 n9 cp), (7, .v (.int .i64 (k : Int))), (8, .adr 8 0)] [(8, ⟨26, r314.cs⟩), (15, ⟨100, [.slice x.a x.n x.c, .int .i64 (a311 : Int)]⟩), (54, ⟨26, rcs L ++ X⟩)] ?_
        refine sw_seq ?_
        refine sw_reg ?_
        refine sy_pure 9 (.v (.bool false)) ?_
        refine sy_next 81 [(4, .adr 15 0), (5, .v (.slice xp.a xp.n xp.c)), (6, .slc 54 0 n9 cp), (7, .v (.int .i64 (k : Int))), (8, .adr 8 0), (9, .v (.bool false))] [(8, ⟨26, r314.cs⟩), (15, ⟨100, [.slice x.a x.n x.c, .int .i64 (a311 : Int)]⟩), (54, ⟨26, rcs L ++ X⟩)] ?_
        refine sw_seq ?_
        refine sw_seq ?_
        refine sw_reg ?_
        refine sy_pure 36 (.slc 54 0 n9 cp) ?_
        refine sy_pure 37 (.v (.int .i64 (n9 : Int))) ?_
        refine sy_pure 38 (.v (.int .i64 0)) ?_
        refine sy_next 81 [(4, .adr 15 0), (5, .v (.slice xp.a xp.n xp.c)), (6, .slc 54 0 n9 cp), (7, .v (.int .i64 (k : Int))), (8, .adr 8 0), (9, .v (.bool false)), (36, .slc 54 0 n9 cp), (37, .v (.int .i64 (n9 : Int))), (38, .v (.int .i64 0))] [(8, ⟨26, r314.cs⟩), (15, ⟨100, [.slice x.a x.n x.c, .int .i64 (a311 : Int)]⟩), (54, ⟨26, rcs L ++ X⟩)] ?_
        refine sw_block ?_
        refine sw_loop (I := fun m319 S' u' => ∃ (q : Nat) (bb : Bool), (m319 = n9 - q) ∧ (q ≤ n9) ∧ (S' = St.of 81 [(4, .adr 15 0), (5, .v (.slice xp.a xp.n xp.c)), (6, .slc 54 0 n9 cp), (7, .v (.int .i64 (k : Int))), (8, .adr 8 0), (9, .v (.bool bb)), (36, .slc 54 0 n9 cp), (37, .v (.int .i64 (n9 : Int))), (38, .v (.int .i64 (q : Int)))] [(8, ⟨26, r314.cs⟩), (15, ⟨100, [.slice x.a x.n x.c, .int .i64 (a311 : Int)]⟩), (54, ⟨26, rcs L ++ X⟩)]) ∧ (Ext u316 u')) (fun m S u1 u2 e h => by obtain ⟨q, bb, hm, p0, hS, hE⟩ := h; exact ⟨q, bb, hm, p0, hS, hE.trans e⟩) _ (T := St.of 81 [(4, .adr 15 0), (5, .v (.slice xp.a xp.n xp.c)), (6, .slc 54 0 n9 cp), (7, .v (.int .i64 (k : Int))), (8, .adr 8 0), (9, .v (.bool false)), (36, .slc 54 0 n9 cp), (37, .v (.int .i64 (n9 : Int))), (38, .v (.int .i64 0))] [(8, ⟨26, r314.cs⟩), (15, ⟨100, [.slice x.a x.n x.c, .int .i64 (a311 : Int)]⟩), (54, ⟨26, rcs L ++ X⟩)]) (by exact weak_mk _ _ _) ⟨0, false, rfl, by omega, rfl, Ext.refl _⟩ ?_
        rintro m319 _ u319 ⟨q, bb, hm319, hq, rfl, e319⟩
        refine sw_seq ?_
        refine sw_reg ?_
        refine sy_pure 39 (.v (.bool (decide ((q : Int) < (n9 : Int))))) ?_
        refine sy_next 81 [(4, .adr 15 0), (5, .v (.slice xp.a xp.n xp.c)), (6, .slc 54 0 n9 cp), (7, .v (.int .i64 (k : Int))), (8, .adr 8 0), (9, .v (.bool bb)), (36, .slc 54 0 n9 cp), (37, .v (.int .i64 (n9 : Int))), (38, .v (.int .i64 (q : Int))), (39, .v (.bool (decide ((q : Int) < (n9 : Int)))))] [(8, ⟨26, r314.cs⟩), (15, ⟨100, [.slice x.a x.n x.c, .int .i64 (a311 : Int)]⟩), (54, ⟨26, rcs L ++ X⟩)] ?_
        refine sw_seq ?_
        refine sw_cond (b := decide ((q : Int) < (n9 : Int))) (by kernel_rfl) (fun hb320 => ?_) (fun hb320 => ?_)
        · replace hb320 : (decide ((q : Int) < (n9 : Int))) = true := hb320
          have qhb320 := of_decide_eq_true hb320
          refine sw_skip (mp_seq ?_)
          refine sw_seq ?_
          refine sw_block ?_
          refine sw_seq ?_
          refine sw_reg ?_
          refine sy_idxO 40 (off' := q * 3) (n := n9) (off := 0) (sz := 3) (i := (q : Int)) sl40 (by omega) (by omega) (by omega) ?_
          obtain ⟨r321, hrr321⟩ : ∃ r : RL, (L).getD q rl0 = r := ⟨_, rfl⟩
          refine sy_ldv 41 (V := ⟨26, rcs L ++ X⟩) (off := q * 3) (.v r321.v) ty26 (by have h9 := part_rcsX (X := X) (L := L) (i := q) (off := q * 3) (by first | omega | (simp; omega)) rfl; rw [hrr321] at h9; exact h9) ?_
          have h322 := (hRo.ext (e311.trans (e313.trans (g317.ext.trans e319)))).2 q (by first | omega | (simp; omega))
          rw [hrr321] at h322
          refine sy_new 11 ⟨26, [.bool false, .slice none 0 0, .slice none 0 0]⟩ ?_
          refine sy_store ⟨26, r321.cs⟩ ty26 ?_
          refine sy_next 81 [(4, .adr 15 0), (5, .v (.slice xp.a xp.n xp.c)), (6, .slc 54 0 n9 cp), (7, .v (.int .i64 (k : Int))), (8, .adr 8 0), (9, .v (.bool bb)), (11, .adr 11 0), (36, .slc 54 0 n9 cp), (37, .v (.int .i64 (n9 : Int))), (38, .v (.int .i64 (q : Int)))] [(8, ⟨26, r314.cs⟩), (11, ⟨26, r321.cs⟩), (15, ⟨100, [.slice x.a x.n x.c, .int .i64 (a311 : Int)]⟩), (54, ⟨26, rcs L ++ X⟩)] ?_
          refine sw_reg ?_
          refine sy_pure 42 (.v (.bool bb)) ?_
          rcases Bool.eq_false_or_eq_true bb with hs323 | hs323
          · refine sy_eq 43 (x := .v (.bool bb)) (.v (.bool true)) (by rw [hs323]) ?_
            refine sy_drop 44 (uw 1 false true 43) ?_
            refine sy_drop 45 (uw 1 false true 43) ?_
            refine sy_drop 46 (uw 1 false true 43) ?_
            refine sy_drop 47 (uw 1 false true 43) ?_
            refine sy_pure 48 (.v (.bool true)) ?_
            refine sy_pure 9 (.v (.bool true)) ?_
            refine sy_end ?_
            refine mp_seq ?_
            refine sw_reg ?_
            refine sy_eq 49 (x := .v (.int .i64 (IntKind.i64.wrap ((q : Int) + 1)))) (.v (.int .i64 ((q + 1 : Nat) : Int))) (eqI (by rw [IntWalk.i64_in _ (by omega)]; omega)) ?_
            refine sy_pure 38 (.v (.int .i64 ((q + 1 : Nat) : Int))) ?_
            refine sy_end ?_
            refine ⟨_, ?_, St.of 81 [(4, .adr 15 0), (5, .v (.slice xp.a xp.n xp.c)), (6, .slc 54 0 n9 cp), (7, .v (.int .i64 (k : Int))), (8, .adr 8 0), (9, .v (.bool true)), (36, .slc 54 0 n9 cp), (37, .v (.int .i64 (n9 : Int))), (38, .v (.int .i64 ((q + 1 : Nat) : Int)))] [(8, ⟨26, r314.cs⟩), (15, ⟨100, [.slice x.a x.n x.c, .int .i64 (a311 : Int)]⟩), (54, ⟨26, rcs L ++ X⟩)], by exact weak_mk _ _ _, q + 1, true, rfl, by omega, rfl, e319⟩
            omega
          · refine sy_eq 43 (x := .v (.bool bb)) (.v (.bool false)) (by rw [hs323]) ?_
            refine sy_ldv 44 (.v (r314.v)) ty26 part_agg ?_ (hw := w1 1 false 43)
            refine sy_ldv 45 (.v (r321.v)) ty26 part_agg ?_ (hw := w1 1 false 43)
            refine sy_call 46 40 [r314.v, r321.v] ?_ (hw := w1 1 false 43)
            intro w324 u324 e324 d324
            have k327 := k_rqCompare d324 (h315.ext (e319.trans e324)).raw (h322.ext e324).raw (by omega) (by omega)
            with_reducible refine Post.mono k327 ?_
            clear k327
            rintro _ u325 g326 rfl
            refine sy_pure 47 (.v (.bool ((Nt.cmpQ (Nt.cosQ (z311 : Int)) (rs.getD q 0)) == 0))) ?_ (hw := w1 1 false 43)
            refine sy_pure 48 (.v (.bool ((Nt.cmpQ (Nt.cosQ (z311 : Int)) (rs.getD q 0)) == 0))) ?_
            refine sy_pure 9 (.v (.bool ((Nt.cmpQ (Nt.cosQ (z311 : Int)) (rs.getD q 0)) == 0))) ?_
            refine sy_end ?_
            refine mp_seq ?_
            refine sw_reg ?_
            refine sy_eq 49 (x := .v (.int .i64 (IntKind.i64.wrap ((q : Int) + 1)))) (.v (.int .i64 ((q + 1 : Nat) : Int))) (eqI (by rw [IntWalk.i64_in _ (by omega)]; omega)) ?_
            refine sy_pure 38 (.v (.int .i64 ((q + 1 : Nat) : Int))) ?_
            refine sy_end ?_
            refine ⟨_, ?_, St.of 81 [(4, .adr 15 0), (5, .v (.slice xp.a xp.n xp.c)), (6, .slc 54 0 n9 cp), (7, .v (.int .i64 (k : Int))), (8, .adr 8 0), (9, .v (.bool ((Nt.cmpQ (Nt.cosQ (z311 : Int)) (rs.getD q 0)) == 0))), (36, .slc 54 0 n9 cp), (37, .v (.int .i64 (n9 : Int))), (38, .v (.int .i64 ((q + 1 : Nat) : Int)))] [(8, ⟨26, r314.cs⟩), (15, ⟨100, [.slice x.a x.n x.c, .int .i64 (a311 : Int)]⟩), (54, ⟨26, rcs L ++ X⟩)], by exact weak_mk _ _ _, q + 1, (Nt.cmpQ (Nt.cosQ (z311 : Int)) (rs.getD q 0)) == 0, rfl, by omega, rfl, (e319.trans (e324.trans g326.ext))⟩
            omega
        · replace hb320 : (decide ((q : Int) < (n9 : Int))) = false := hb320
          have qhb320 := of_decide_eq_false hb320
          refine sw_exit ?_
          refine mp_seq ?_
          refine sw_seq ?_
          refine sw_seq ?_
          refine sw_reg ?_
          refine sy_pure 50 (.v (.bool bb)) ?_
          refine sy_next 81 [(4, .adr 15 0), (5, .v (.slice xp.a xp.n xp.c)), (6, .slc 54 0 n9 cp), (7, .v (.int .i64 (k : Int))), (8, .adr 8 0), (50, .v (.bool bb))] [(8, ⟨26, r314.cs⟩), (15, ⟨100, [.slice x.a x.n x.c, .int .i64 (a311 : Int)]⟩), (54, ⟨26, rcs L ++ X⟩)] ?_
          refine sw_cond (b := bb) (by kernel_rfl) (fun hb328 => ?_) (fun hb328 => ?_)
          · replace hb328 : bb = true := hb328
            refine sw_exit ?_
            refine mp_seq ?_
            refine sw_reg ?_
            refine sy_pure 31 (.v (.int .i64 (k : Int))) ?_
            refine sy_eq 32 (x := .v (.int .i64 (IntKind.i64.wrap ((k : Int) - 1)))) (.v (.int .i64 ((k - 1 : Nat) : Int))) (eqI (by rw [IntWalk.i64_in _ (by omega)]; omega)) ?_
            refine sy_pure 7 (.v (.int .i64 ((k - 1 : Nat) : Int))) ?_
            refine sy_end ?_
            refine ⟨_, ?_, St.of 81 [(4, .adr 15 0), (5, .v (.slice xp.a xp.n xp.c)), (6, .slc 54 0 n9 cp), (7, .v (.int .i64 ((k - 1 : Nat) : Int)))] [(15, ⟨100, [.slice x.a x.n x.c, .int .i64 (a311 : Int)]⟩), (54, ⟨26, rcs L ++ X⟩)], by exact weak_mk _ _ _, .inr ⟨k - 1, xp, _, a311, L, X, n9, cp, rs, rfl, by omega, ha311, (Nt.RSz.more hRz (by omega)), hL9, hn0, by omega, hc9, hle9, hmx9, rfl, (e228.trans (e311.trans (e313.trans (g317.ext.trans e319)))), (hP9.ext (e311.trans (e313.trans (g317.ext.trans e319)))), (hRo.ext (e311.trans (e313.trans (g317.ext.trans e319))))⟩⟩
            omega
          · replace hb328 : bb = false := hb328
            refine sw_skip (mp_seq ?_)
            refine sw_seq ?_
            have ht9 : (rcs L ++ X).take (n9 * 3) = rcs L := by rw [← hL9, ← rcs_len, List.take_left]
            refine sw_reg ?_
            refine sy_pure 51 (.slc 54 0 n9 cp) ?_
            refine sy_ldv 52 (.v (r314.v)) ty26 part_agg ?_
            refine sy_data 53 ⟨26, r314.cs⟩ 1 (fun b329 u330 e331 h332 => ?_)
            have hp333 : PolN u330 (⟨some ⟨b329, 0, none⟩, 1, 1⟩ : Sl) [(Nt.cosQ (z311 : Int))] 1 := pol_lit (L := [r314]) h332 (rats1 (h315.ext (e319.trans e331))) rfl (by decide)
            refine sy_app1 54 (T := 40) (E := 26) (z := .agg #[.bool false, .slice none 0 0, .slice none 0 0]) (size := 3) (bytes := 56) (b := b329) (off := 0) (m := 1) (n := n9) (cap := cp) (t := 54) (cs0 := (rcs L ++ X)) [6, 51, 54] r314.cs (by kernel_rfl) (by kernel_rfl) (by kernel_rfl) (by decide) rfl (lit_news ((Ext.refl _).cells h332)) (rl_one r314) (by decide) (by unfold maxLen; omega) (by omega) (by omega) (by omega) (by omega) (by repeat first | exact noAt_of | refine noAt_set ?_ | refine noAt_lit ?_ | refine noAt_new ?_ | refine noAt_setVar ?_ | refine noAt_unpub ?_) ?_
            intro c334 cs334 ha334 hb334 hc334 hd334
            have hd334r : cs334.take ((n9 + 1) * 3) = rcs (L ++ [r314]) := by rw [hd334, ht9, rcs_app]; rfl
            refine sy_pure 6 (.slc 54 0 (n9 + 1) c334) ?_
            refine sy_next 81 [(4, .adr 15 0), (5, .v (.slice xp.a xp.n xp.c)), (6, .slc 54 0 (n9 + 1) c334), (7, .v (.int .i64 (k : Int))), (8, .adr 8 0)] [(8, ⟨26, r314.cs⟩), (15, ⟨100, [.slice x.a x.n x.c, .int .i64 (a311 : Int)]⟩), (54, ⟨26, cs334⟩)] ?_
            refine sw_seq ?_
            obtain ⟨X335, hX335⟩ := spare_of (n := n9 + 1) (L := L ++ [r314]) hd334r
            subst hX335
            have hRo335 : RatsN u330 (L ++ [r314]) (rs ++ [(Nt.cosQ (z311 : Int))]) 1 := RatsN.snoc (hRo.ext (e311.trans (e313.trans (g317.ext.trans (e319.trans e331))))) (h315.ext (e319.trans e331))
            refine sw_reg ?_
            refine sy_pure 55 (.adr 15 0) ?_
            have kc337 := fun (g : Nat) (w u1 : World) (e : Ext u330 u1) (d : Dat u1 w) (hg : w.heap[g]? = some (.cells (tpc x a311).toArray 100 (0, 0))) (hu : u1.heap[g]? = some hidO) => (show Calls Tryz.prog 119 (Value.pointer (some ⟨g, 0, none⟩) :: [.int .i64 3]).toArray w _ from k_tapeNext (m := 3) d hg hu (SlR.ext (hx.ext (e11.trans (e13.trans (g17.ext.trans (e21.trans (e24.trans (e226.trans (e228.trans (e311.trans (e313.trans (g317.ext.trans (e319.trans e331)))))))))))) e) hb ha311 (by decide) (by decide))
            refine sy_lendP 56 119 (t := 15) (V := ⟨100, [.slice x.a x.n x.c, .int .i64 (a311 : Int)]⟩) [.int .i64 3] (by kernel_rfl) kc337 ?_
            clear kc337
            rintro v336 V336 u336 e336 ⟨z336, a336, rfl, hz336, rfl, ha336⟩
            refine sy_eq 12 (x := .v (.int .i64 ((z336 : Int)))) (.v (.int .i64 (((z336 + 1 : Nat) : Int) - 1))) (eqI (by omega)) ?_
            refine sy_next 81 [(4, .adr 15 0), (5, .v (.slice xp.a xp.n xp.c)), (6, .slc 54 0 (n9 + 1) c334), (7, .v (.int .i64 (k : Int))), (8, .adr 8 0), (12, .v (.int .i64 (((z336 + 1 : Nat) : Int) - 1)))] [(8, ⟨26, r314.cs⟩), (15, ⟨100, [.slice x.a x.n x.c, .int .i64 (a336 : Int)]⟩), (54, ⟨26, rcs (L ++ [r314]) ++ X335⟩)] ?_
            refine sw_block ?_
            refine sw_loop (I := fun m338 S' u' => ∃ (kk : Nat) (xq : Sl) (pm : List Rat), (m338 = kk) ∧ (kk ≤ z336 + 1) ∧ (Nt.RSz pm (3 * (3 - k) + (z336 + 1 - kk))) ∧ (S' = St.of 81 [(4, .adr 15 0), (5, .v (.slice xq.a xq.n xq.c)), (6, .slc 54 0 (n9 + 1) c334), (7, .v (.int .i64 (k : Int))), (8, .adr 8 0), (12, .v (.int .i64 ((kk : Int) - 1)))] [(8, ⟨26, r314.cs⟩), (15, ⟨100, [.slice x.a x.n x.c, .int .i64 (a336 : Int)]⟩), (54, ⟨26, rcs (L ++ [r314]) ++ X335⟩)]) ∧ (Ext u336 u') ∧ (PolN u' xq pm 2)) (fun m S u1 u2 e h => by obtain ⟨kk, xq, pm, hm, p0, p1, hS, hE, f0⟩ := h; exact ⟨kk, xq, pm, hm, p0, p1, hS, hE.trans e, f0.ext e⟩) _ (T := St.of 81 [(4, .adr 15 0), (5, .v (.slice xp.a xp.n xp.c)), (6, .slc 54 0 (n9 + 1) c334), (7, .v (.int .i64 (k : Int))), (8, .adr 8 0), (12, .v (.int .i64 (((z336 + 1 : Nat) : Int) - 1)))] [(8, ⟨26, r314.cs⟩), (15, ⟨100, [.slice x.a x.n x.c, .int .i64 (a336 : Int)]⟩), (54, ⟨26, rcs (L ++ [r314]) ++ X335⟩)]) (by exact weak_mk _ _ _) ⟨z336 + 1, xp, pl, rfl, by omega, (by rw [Nat.sub_self]; exact hRz), rfl, Ext.refl _, (hP9.ext (e311.trans (e313.trans (g317.ext.trans (e319.trans (e331.trans e336))))))⟩ ?_
            rintro m338 _ u338 ⟨kk, xq, pm, hm338, hkk, hRm, rfl, e338, hPq⟩
            have hlq := hPq.len
            have hzz := hz336
            refine sw_seq ?_
            refine sw_seq ?_
            refine sw_reg ?_
            refine sy_pure 57 (.v (.int .i64 ((kk : Int) - 1))) ?_
            refine sy_pure 58 (.v (.bool (decide ((0 : Int) ≤ ((kk : Int) - 1))))) ?_
            refine sy_next 81 [(4, .adr 15 0), (5, .v (.slice xq.a xq.n xq.c)), (6, .slc 54 0 (n9 + 1) c334), (7, .v (.int .i64 (k : Int))), (8, .adr 8 0), (12, .v (.int .i64 ((kk : Int) - 1))), (58, .v (.bool (decide ((0 : Int) ≤ ((kk : Int) - 1)))))] [(8, ⟨26, r314.cs⟩), (15, ⟨100, [.slice x.a x.n x.c, .int .i64 (a336 : Int)]⟩), (54, ⟨26, rcs (L ++ [r314]) ++ X335⟩)] ?_
            refine sw_cond (b := decide ((0 : Int) ≤ ((kk : Int) - 1))) (by kernel_rfl) (fun hb339 => ?_) (fun hb339 => ?_)
            · replace hb339 : (decide ((0 : Int) ≤ ((kk : Int) - 1))) = true := hb339
              have qhb339 := of_decide_eq_true hb339
              refine sw_skip (mp_seq ?_)
              refine sw_seq ?_
              refine sw_block ?_
              refine sw_reg ?_
              refine sy_pure 61 (.v (.slice xq.a xq.n xq.c)) ?_
              refine sy_ldv 62 (.v (r314.v)) ty26 part_agg ?_
              refine sy_call 63 110 [r314.v] ?_
              intro w340 u340 e340 d340
              have k345 := k_rqNeg d340 (h315.ext (e319.trans (e331.trans (e336.trans (e338.trans e340))))).raw (by omega)
              with_reducible refine Post.mono k345 ?_
              clear k345
              rintro _ u343 g344 ⟨r341, rfl, h342⟩
              refine sy_call 64 41 [.int .i64 1] ?_
              intro w346 u346 e346 d346
              have k351 := k_rqOf d346 (z := 1) (by omega) (by omega)
              with_reducible refine Post.mono k351 ?_
              clear k351
              rintro _ u349 g350 ⟨r347, rfl, h348⟩
              refine sy_data 65 ⟨26, r341.cs ++ r347.cs⟩ 2 (fun b352 u353 e354 h355 => ?_)
              have hp356 : PolN u353 (⟨some ⟨b352, 0, none⟩, 2, 2⟩ : Sl) [(-(Nt.cosQ (z311 : Int))), ((1 : Int) : Rat)] (max 1 2) := pol_lit (L := [r341, r347]) h355 (rats2 (RatN.more (L := (max 1 2)) (h342.ext (e346.trans (g350.ext.trans e354))) (by omega)) (RatN.more (L := (max 1 2)) (h348.ext e354) (by omega))) rfl (by decide)
              refine sy_call 66 96 [.slice xq.a xq.n xq.c, .slice (some ⟨b352, 0, none⟩) 2 2] ?_
              intro w357 u357 e357 d357
              have k362 := k_r5Mul d357 (PolV.more (K' := 5) (hPq.ext (e340.trans (g344.ext.trans (e346.trans (g350.ext.trans (e354.trans e357)))))).raw (by omega)) (PolV.more (K' := 5) (hp356.ext e357).raw (by omega)) (Nat.le_trans (Nt.kk_mono (Nat.le_refl _) (Nat.mul_le_mul (show _ ≤ 12 by have h9 := hRm.1; omega) (Nat.le_refl _))) (show Nt.kk (5 + 5 + 3) (12 * 2) ≤ 20000000 by decide)) (by decide) (by decide) (by have h9 := hRm.1; omega) (show 2 ≤ 100000000 by decide)
              with_reducible refine Post.mono k362 ?_
              clear k362
              rintro _ u360 g361 ⟨y358, rfl, h359⟩
              refine sy_pure 5 (.v (.slice y358.a y358.n y358.c)) ?_
              refine sy_end ?_
              refine mp_seq ?_
              refine sw_reg ?_
              refine sy_pure 59 (.v (.int .i64 ((kk : Int) - 1))) ?_
              refine sy_eq 60 (x := .v (.int .i64 (IntKind.i64.wrap (((kk : Int) - 1) - 1)))) (.v (.int .i64 (((kk - 1 : Nat) : Int) - 1))) (eqI (by rw [IntWalk.i64_in _ (by omega)]; omega)) ?_
              refine sy_pure 12 (.v (.int .i64 (((kk - 1 : Nat) : Int) - 1))) ?_
              refine sy_end ?_
              have hRn : Nt.RSz (Nt.trimQ (Nt.mulQ pm [(-(Nt.cosQ (z311 : Int))), ((1 : Int) : Rat)])) (3 * (3 - k) + (z336 + 1 - (kk - 1))) := (Nt.RSz.lin hRm (Nt.cosQ_wh _)).more (by omega)
              refine ⟨_, ?_, St.of 81 [(4, .adr 15 0), (5, .v (.slice y358.a y358.n y358.c)), (6, .slc 54 0 (n9 + 1) c334), (7, .v (.int .i64 (k : Int))), (8, .adr 8 0), (12, .v (.int .i64 (((kk - 1 : Nat) : Int) - 1)))] [(8, ⟨26, r314.cs⟩), (15, ⟨100, [.slice x.a x.n x.c, .int .i64 (a336 : Int)]⟩), (54, ⟨26, rcs (L ++ [r314]) ++ X335⟩)], by exact weak_mk _ _ _, kk - 1, y358, (Nt.trimQ (Nt.mulQ pm [(-(Nt.cosQ (z311 : Int))), ((1 : Int) : Rat)])), rfl, by omega, hRn, rfl, (e338.trans (e340.trans (g344.ext.trans (e346.trans (g350.ext.trans (e354.trans (e357.trans g361.ext))))))), (PolN.fitRS h359 hRn (by omega))⟩
              omega
            · replace hb339 : (decide ((0 : Int) ≤ ((kk : Int) - 1))) = false := hb339
              have qhb339 := of_decide_eq_false hb339
              refine sw_exit ?_
              refine mp_seq ?_
              refine sw_reg ?_
              refine sy_pure 31 (.v (.int .i64 (k : Int))) ?_
              refine sy_eq 32 (x := .v (.int .i64 (IntKind.i64.wrap ((k : Int) - 1)))) (.v (.int .i64 ((k - 1 : Nat) : Int))) (eqI (by rw [IntWalk.i64_in _ (by omega)]; omega)) ?_
              refine sy_pure 7 (.v (.int .i64 ((k - 1 : Nat) : Int))) ?_
              refine sy_end ?_
              refine ⟨_, ?_, St.of 81 [(4, .adr 15 0), (5, .v (.slice xq.a xq.n xq.c)), (6, .slc 54 0 (n9 + 1) c334), (7, .v (.int .i64 ((k - 1 : Nat) : Int)))] [(15, ⟨100, [.slice x.a x.n x.c, .int .i64 (a336 : Int)]⟩), (54, ⟨26, rcs (L ++ [r314]) ++ X335⟩)], by exact weak_mk _ _ _, .inr ⟨k - 1, xq, _, a336, (L ++ [r314]), X335, (n9 + 1), c334, (rs ++ [(Nt.cosQ (z311 : Int))]), rfl, by omega, ha336, (Nt.RSz.more hRm (by omega)), by simp; omega, by omega, by omega, hc334, ha334, hb334, rfl, (e228.trans (e311.trans (e313.trans (g317.ext.trans (e319.trans (e331.trans (e336.trans e338))))))), hPq, (hRo335.ext (e336.trans e338))⟩⟩
              omega
      · replace hb310 : (decide ((0 : Int) < (k : Int))) = false := hb310
        have qhb310 := of_decide_eq_false hb310
        refine sw_exit ?_
        refine mp_seq ?_
        refine sw_seq ?_
        refine sw_seq ?_
        have hk0 : k = 0 := by omega
        refine sw_reg ?_
        refine sy_pure 67 (.adr 15 0) ?_
        have kc364 := fun (g : Nat) (w u1 : World) (e : Ext u228 u1) (d : Dat u1 w) (hg : w.heap[g]? = some (.cells (tpc x a9).toArray 100 (0, 0))) (hu : u1.heap[g]? = some hidO) => (show Calls Tryz.prog 119 (Value.pointer (some ⟨g, 0, none⟩) :: [.int .i64 2]).toArray w _ from k_tapeNext (m := 2) d hg hu (SlR.ext (hx.ext (e11.trans (e13.trans (g17.ext.trans (e21.trans (e24.trans (e226.trans e228))))))) e) hb ha9 (by decide) (by decide))
        refine sy_lendP 68 119 (t := 15) (V := ⟨100, [.slice x.a x.n x.c, .int .i64 (a9 : Int)]⟩) [.int .i64 2] (by kernel_rfl) kc364 ?_
        clear kc364
        rintro v363 V363 u363 e363 ⟨z363, a363, rfl, hz363, rfl, ha363⟩
        refine sy_pure 69 (.v (.bool ((z363 : Int) == 1))) ?_
        refine sy_next 81 [(4, .adr 15 0), (5, .v (.slice xp.a xp.n xp.c)), (6, .slc 54 0 n9 cp), (69, .v (.bool ((z363 : Int) == 1)))] [(15, ⟨100, [.slice x.a x.n x.c, .int .i64 (a363 : Int)]⟩), (54, ⟨26, rcs L ++ X⟩)] ?_
        refine sw_cond (b := (z363 : Int) == 1) (by kernel_rfl) (fun hb365 => ?_) (fun hb365 => ?_)
        · replace hb365 : ((z363 : Int) == 1) = true := hb365
          have qhb365 : (z363 : Int) = 1 := by simpa using hb365
          refine sw_reg ?_
          refine sy_pure 70 (.v (.slice xp.a xp.n xp.c)) ?_
          refine sy_pure 71 (.adr 15 0) ?_
          have kc367 := fun (g : Nat) (w u1 : World) (e : Ext u363 u1) (d : Dat u1 w) (hg : w.heap[g]? = some (.cells (tpc x a363).toArray 100 (0, 0))) (hu : u1.heap[g]? = some hidO) => (show Calls Tryz.prog 119 (Value.pointer (some ⟨g, 0, none⟩) :: [.int .i64 4]).toArray w _ from k_tapeNext (m := 4) d hg hu (SlR.ext (hx.ext (e11.trans (e13.trans (g17.ext.trans (e21.trans (e24.trans (e226.trans (e228.trans e363)))))))) e) hb ha363 (by decide) (by decide))
          refine sy_lendP 72 119 (t := 15) (V := ⟨100, [.slice x.a x.n x.c, .int .i64 (a363 : Int)]⟩) [.int .i64 4] (by kernel_rfl) kc367 ?_
          clear kc367
          rintro v366 V366 u366 e366 ⟨z366, a366, rfl, hz366, rfl, ha366⟩
          refine sy_eq 73 (x := .v (.int .i64 (IntKind.i64.wrap ((1 : Int) + (z366 : Int))))) (.v (.int .i64 ((1 + z366 : Nat) : Int))) (eqI (by rw [IntWalk.i64_in _ (by omega)]; omega)) ?_
          refine sy_call 74 49 [.int .i64 ((1 + z366 : Nat) : Int), .int .i64 16] ?_
          intro w368 u368 e368 d368
          have k373 := k_rqFrac d368 (a := ((1 + z366 : Nat) : Int)) (b := 16) (by omega) (by omega) (by omega) (by omega)
          with_reducible refine Post.mono k373 ?_
          clear k373
          rintro _ u371 g372 ⟨r369, rfl, h370⟩
          refine sy_call 75 41 [.int .i64 0] ?_
          intro w374 u374 e374 d374
          have k379 := k_rqOf d374 (z := 0) (by omega) (by omega)
          with_reducible refine Post.mono k379 ?_
          clear k379
          rintro _ u377 g378 ⟨r375, rfl, h376⟩
          refine sy_call 76 41 [.int .i64 1] ?_
          intro w380 u380 e380 d380
          have k385 := k_rqOf d380 (z := 1) (by omega) (by omega)
          with_reducible refine Post.mono k385 ?_
          clear k385
          rintro _ u383 g384 ⟨r381, rfl, h382⟩
          refine sy_data 77 ⟨26, r369.cs ++ r375.cs ++ r381.cs⟩ 3 (fun b386 u387 e388 h389 => ?_)
          have hp390 : PolN u387 (⟨some ⟨b386, 0, none⟩, 3, 3⟩ : Sl) [(((((1 + z366 : Nat) : Int) : Int) : Rat) / ((16 : Int) : Rat)), ((0 : Int) : Rat), ((1 : Int) : Rat)] (max (max 3 2) 2) := pol_lit (L := [r369, r375, r381]) h389 (rats3 (RatN.more (L := (max (max 3 2) 2)) (h370.ext (e374.trans (g378.ext.trans (e380.trans (g384.ext.trans e388))))) (by omega)) (RatN.more (L := (max (max 3 2) 2)) (h376.ext (e380.trans (g384.ext.trans e388))) (by omega)) (RatN.more (L := (max (max 3 2) 2)) (h382.ext e388) (by omega))) rfl (by decide)
          refine sy_call 78 96 [.slice xp.a xp.n xp.c, .slice (some ⟨b386, 0, none⟩) 3 3] ?_
          intro w391 u391 e391 d391
          have k396 := k_r5Mul d391 (PolV.more (K' := 5) (hP9.ext (e363.trans (e366.trans (e368.trans (g372.ext.trans (e374.trans (g378.ext.trans (e380.trans (g384.ext.trans (e388.trans e391)))))))))).raw (by omega)) (PolV.more (K' := 5) (hp390.ext e391).raw (by omega)) (Nat.le_trans (Nt.kk_mono (Nat.le_refl _) (Nat.mul_le_mul (show _ ≤ 12 by have h9 := hRz.1; omega) (Nat.le_refl _))) (show Nt.kk (5 + 5 + 3) (12 * 3) ≤ 20000000 by decide)) (by decide) (by decide) (by have h9 := hRz.1; omega) (show 3 ≤ 100000000 by decide)
          with_reducible refine Post.mono k396 ?_
          clear k396
          rintro _ u394 g395 ⟨y392, rfl, h393⟩
          refine sy_pure 5 (.v (.slice y392.a y392.n y392.c)) ?_
          refine sy_next 81 [(5, .v (.slice y392.a y392.n y392.c)), (6, .slc 54 0 n9 cp)] [(54, ⟨26, rcs L ++ X⟩)] ?_
          refine sw_seq ?_
          refine sw_pub (r := 6) (t := 54) [6, 54] (by repeat first | exact noAt_of | refine noAt_set ?_ | refine noAt_lit ?_ | refine noAt_new ?_ | refine noAt_setVar ?_ | refine noAt_unpub ?_) (by kernel_rfl) (by rfl) (by rfl) (by kernel_rfl) (fun b397 u398 e399 hb400 hh401 => ?_)
          have hp402 : PolN u398 ⟨some ⟨b397, 0, none⟩, n9, cp⟩ rs 1 := pol_data (cs := rcs L ++ X) (n := n9) (c := cp) hh401 (by rw [← hL9, ← rcs_len, List.take_left]) hc9 hle9 hmx9 (hRo.ext (e363.trans (e366.trans (e368.trans (g372.ext.trans (e374.trans (g378.ext.trans (e380.trans (g384.ext.trans (e388.trans (e391.trans (g395.ext.trans e399))))))))))))
          refine sw_reg ?_
          refine sy_pure 79 (.v (.slice y392.a y392.n y392.c)) ?_
          refine sy_pure 80 (.v (.slice (some ⟨b397, 0, none⟩) n9 cp)) ?_
          refine sy_pure 2 (.v (.slice y392.a y392.n y392.c)) ?_
          refine sy_pure 3 (.v (.slice (some ⟨b397, 0, none⟩) n9 cp)) ?_
          refine sy_next 81 [(2, .v (.slice y392.a y392.n y392.c)), (3, .v (.slice (some ⟨b397, 0, none⟩) n9 cp))] [] ?_
          refine sw_ret (ret0 [.slice y392.a y392.n y392.c, .slice (some ⟨b397, 0, none⟩) n9 cp] ⟨res_tmp, res_tmp, trivial⟩ fun u403 e404 => ?_)
          have hfin : Nt.RFin (Nt.trimQ (Nt.mulQ pl [(((((1 + z366 : Nat) : Int) : Int) : Rat) / ((16 : Int) : Rat)), ((0 : Int) : Rat), ((1 : Int) : Rat)])) := (Nt.RSz.quad (hRz.more (by omega)) (Nt.quad_wh hz366))
          exact ⟨y392, (⟨some ⟨b397, 0, none⟩, n9, cp⟩ : Sl), _, rs, rfl, PolN.fitRF (h393.ext (e399.trans e404)) hfin, (hp402.ext e404), hfin⟩
        · replace hb365 : ((z363 : Int) == 1) = false := hb365
          have qhb365 : ¬ ((z363 : Int) = 1) := by simpa using hb365
          refine sw_skip (mp_seq ?_)
          refine sw_seq ?_
          refine sw_pub (r := 6) (t := 54) [6, 54] (by repeat first | exact noAt_of | refine noAt_set ?_ | refine noAt_lit ?_ | refine noAt_new ?_ | refine noAt_setVar ?_ | refine noAt_unpub ?_) (by kernel_rfl) (by rfl) (by rfl) (by kernel_rfl) (fun b405 u406 e407 hb408 hh409 => ?_)
          have hp410 : PolN u406 ⟨some ⟨b405, 0, none⟩, n9, cp⟩ rs 1 := pol_data (cs := rcs L ++ X) (n := n9) (c := cp) hh409 (by rw [← hL9, ← rcs_len, List.take_left]) hc9 hle9 hmx9 (hRo.ext (e363.trans e407))
          refine sw_reg ?_
          refine sy_pure 79 (.v (.slice xp.a xp.n xp.c)) ?_
          refine sy_pure 80 (.v (.slice (some ⟨b405, 0, none⟩) n9 cp)) ?_
          refine sy_pure 2 (.v (.slice xp.a xp.n xp.c)) ?_
          refine sy_pure 3 (.v (.slice (some ⟨b405, 0, none⟩) n9 cp)) ?_
          refine sy_next 81 [(2, .v (.slice xp.a xp.n xp.c)), (3, .v (.slice (some ⟨b405, 0, none⟩) n9 cp))] [] ?_
          refine sw_ret (ret0 [.slice xp.a xp.n xp.c, .slice (some ⟨b405, 0, none⟩) n9 cp] ⟨res_tmp, res_tmp, trivial⟩ fun u411 e412 => ?_)
          have hfin : Nt.RFin pl := (Nt.RSz.fin (hRz.more (by omega)))
          exact ⟨xp, (⟨some ⟨b405, 0, none⟩, n9, cp⟩ : Sl), _, rs, rfl, PolN.fitRF (hP9.ext (e363.trans (e407.trans e412))) hfin, (hp410.ext e412), hfin⟩
end Go.Proofs.YtnedhbidmfoegaaGreat
namespace Go.Proofs.YtnedhbidmfoegaaGreat
set_option linter.unusedVariables false
namespace Nt
section
variable {a1 a2 b1 b2 c1 c2 d1 d2 : Rat}
def hl (a b c d : Rat) : Rat := lo (lo a b) (lo c d)
def hh (a b c d : Rat) : Rat := hi (hi a b) (hi c d)
end
end Nt
end Go.Proofs.YtnedhbidmfoegaaGreat
namespace Go.Proofs.YtnedhbidmfoegaaGreat.Nt
open Go.RowKit
open Pol
set_option linter.unusedVariables false
section
variable {l : List Rat} {x a b c : Rat} {i n D A B K : Nat} {q : Pol}
end
end Go.Proofs.YtnedhbidmfoegaaGreat.Nt
namespace Go.Proofs.YtnedhbidmfoegaaGreat.Nt
open Go.RowKit
open Pol
set_option linter.unusedVariables false
section
variable {l m W : List Rat} {x q : Rat} {i A B C : Nat}
def hp (q : Rat) (i : Nat) : Rat := (((q.den ^ (i - 1) : Nat) : Int) : Rat)
def hs (W : List Rat) (q : Rat) (i : Nat) : Rat := hp q i * evL (W.drop (W.length - i)) q
theorem Sm.mem {D : Nat} (h : Sm l D A) : ∀ y ∈ l, Wh (y * ((D : Int) : Rat)) A := fun y hy => by
  obtain ⟨j, hj, e⟩ := List.getElem_of_mem hy
  have h9 := h.2 j
  unfold Nt.co at h9
  rw [List.getD_eq_getElem?_getD, List.getElem?_eq_getElem hj, Option.getD_some, e] at h9
  exact h9
end
end Go.Proofs.YtnedhbidmfoegaaGreat.Nt
namespace Go.Proofs.YtnedhbidmfoegaaGreat.Nt
open Go.RowKit
open Pol
set_option linter.unusedVariables false
section
variable {p q r : List Rat} {g h u v : Pol} {x y : Rat} {n : Int}
theorem gcd_len {a b : Nat} (hg : IsGcd (mk' p) (mk' q) g) (h1 : p.length ≤ a) (h2 : q.length ≤ b) : g.l.length ≤ max a b := by
  have e1 := mk_len p
  have e2 := mk_len q
  by_cases hp : mk' p = 0
  · by_cases hq : mk' q = 0
    · obtain ⟨s, t, e⟩ := hg.s
      rw [hp, hq, mul_zero, mul_zero, add_zero] at e
      rw [e, zero_l]; exact Nat.zero_le _
    · have h9 : g.l.length ≤ (mk' q).len := len_dvd hg.r hq
      omega
  · have h9 : g.l.length ≤ (mk' p).len := len_dvd hg.l hp
    omega
theorem monic_len {a : Nat} (h1 : p.length ≤ a) : (mk' p).monic.l.length ≤ a := by
  have h9 : (mk' p).monic.l.length ≤ (mk' p).len := by
    by_cases h0 : mk' p = 0
    · rw [h0, monic_zero, zero_l]; exact Nat.zero_le _
    · have h1 := lead_ne h0
      have h2 : (1 / (mk' p).lead) ≠ 0 := by
        intro k
        have : (1 : Rat) = (1 / (mk' p).lead) * (mk' p).lead := by grind
        rw [k] at this; grind
      exact Nat.le_of_eq (len_Cmul h2 (mk' p))
  exact Nat.le_trans h9 (Nat.le_trans (mk_len p) h1)
end
end Go.Proofs.YtnedhbidmfoegaaGreat.Nt
namespace Go.Proofs.YtnedhbidmfoegaaGreat.Nt
open Go.RowKit
open Pol
set_option linter.unusedVariables false
theorem dm_same {l m : List Rat} {q r q' r' : Pol} (h : mk' l = q * mk' m + r) (hr : r.len < (mk' m).len) (h' : mk' l = q' * mk' m + r') (hr' : r'.len < (mk' m).len) : q.l = q'.l ∧ r.l = r'.l := by
  have h9 := div_unique (h.symm.trans h') hr hr'
  rw [h9.1, h9.2]
  exact ⟨rfl, rfl⟩
theorem gcd_same {p q g g' : Pol} (h : IsGcd p q g) (k : IsGcd p q g') : g.l = g'.l := by rw [h.unique k]
theorem sqf_same {p s s' : Pol} (h : IsSqf p s) (k : IsSqf p s') : s.l = s'.l := by rw [h.unique k]
theorem sqf_len {l : List Rat} {s : Pol} {a : Nat} (h : IsSqf (mk' l) s) (h1 : l.length ≤ a) : s.l.length ≤ a := by
  rcases h with ⟨_, e⟩ | ⟨hp, g, q, _, hg, e, e2⟩
  · rw [e, zero_l]; exact Nat.zero_le _
  · rw [e2]
    refine Nat.le_trans (monic_lenP q) (Nat.le_trans (len_dvd ⟨g, e⟩ hp) (Nat.le_trans (mk_len l) h1))
set_option exponentiation.threshold 1000 in
theorem any8 {l : List Rat} (h : ∀ x ∈ l, rs x ≤ 2) (h8 : l.length ≤ 8) : ∃ D, D ≤ 2 ^ 576 ∧ Sm l D 576 := by
  obtain ⟨D, h1, h2⟩ := Sm.any h
  exact ⟨D, Nat.le_trans h1 (Nat.pow_le_pow_right (by decide) (by omega)), h2.more (by omega)⟩
def DMR (l m ql rl : List Rat) (e : Int) : Prop := (e = 3 ∧ trimQ m = [] ∧ ql = [] ∧ rl = []) ∨ (e = 0 ∧ trimQ m ≠ [] ∧ ∃ q r : Pol, ql = q.l ∧ rl = r.l ∧ mk' l = q * mk' m + r ∧ r.len < (mk' m).len)
theorem DMR.uniq {l m a b a' b' : List Rat} {e e' : Int} (h : DMR l m a b e) (k : DMR l m a' b' e') : a = a' ∧ b = b' ∧ e = e' := by
  rcases h with ⟨h1, h2, h3, h4⟩ | ⟨h1, h2, q, r, h3, h4, h5, h6⟩
  · rcases k with ⟨k1, k2, k3, k4⟩ | ⟨k1, k2, _⟩
    · exact ⟨by rw [h3, k3], by rw [h4, k4], by rw [h1, k1]⟩
    · exact absurd h2 k2
  · rcases k with ⟨k1, k2, k3, k4⟩ | ⟨k1, k2, q', r', k3, k4, k5, k6⟩
    · exact absurd k2 h2
    · have h9 := dm_same h5 h6 k5 k6
      exact ⟨by rw [h3, k3, h9.1], by rw [h4, k4, h9.2], by rw [h1, k1]⟩
theorem DMR.len {l m a b : List Rat} {e : Int} (h : DMR l m a b e) : a.length ≤ l.length ∧ b.length ≤ m.length := by
  rcases h with ⟨h1, h2, h3, h4⟩ | ⟨h1, h2, q, r, h3, h4, h5, h6⟩
  · rw [h3, h4]; exact ⟨Nat.zero_le _, Nat.zero_le _⟩
  · have := div_lenL h5 h6
    rw [h3, h4]; omega
end Go.Proofs.YtnedhbidmfoegaaGreat.Nt
namespace Go.Proofs.YtnedhbidmfoegaaGreat
open Go.RowKit
set_option linter.unusedVariables false
theorem k_r5DivModU {u w : World} {x y : Sl} {l m : List Rat} {K M : Nat} (d : Dat u w) (hx : PolV u x l K) (hy : PolV u y m M) {D E A B C : Nat} (hs1 : Nt.Sm l D A) (hD : D ≤ 2 ^ A) (hs2 : Nt.Sm m E B) (hC : A + ((Nt.trimQ l).length - (Nt.trimQ m).length + 1) * (B + 1) ≤ C) (hC9 : C ≤ 400000000) (hK : K ≤ 10000000) (hM : M ≤ 3000000) (hx9 : l.length ≤ 1000000) (hy9 : m.length ≤ 1000000) :
    Calls Tryz.prog 28 #[x.v, y.v] w (Post u w fun v u' => ∃ (y1 y2 : Sl) (ql rl : List Rat) (e : Int), v = .tuple #[y1.v, y2.v, .int .i64 e] ∧ PolN u' y1 ql (Nt.dg C + M + 2) ∧ PolN u' y2 rl (Nt.dg C + M + 2) ∧ Nt.DMR l m ql rl e) :=
  Post.mono (k_r5DivMod d hx hy hs1 hD hs2 hC hC9 hK hM hx9 hy9) fun v u' _ h => by
    rcases h with ⟨h1, h2⟩ | ⟨h1, y1, y2, q, r, h2, h3, h4, h5, h6, _⟩
    · exact ⟨⟨none, 0, 0⟩, ⟨none, 0, 0⟩, [], [], 3, h1, pol_nil _ _, pol_nil _ _, .inl ⟨rfl, h2, rfl, rfl⟩⟩
    · exact ⟨y1, y2, _, _, 0, h2, h3, h4.more (by omega), .inr ⟨rfl, h1, q, r, rfl, rfl, h5, h6⟩⟩
theorem k_poDivModU {u w : World} {x y : Sl} {l m : List Rat} {K M : Nat} (d : Dat u w) (hx : PolV u x l K) (hy : PolV u y m M) {a b C : Nat} (hA : Nt.WhL (Nt.prim l) a) (hB : Nt.WhL (Nt.prim m) b) (hC : a + (l.length + 1) * (b + 1) ≤ C) (hC9 : C ≤ 600000000) (hK1 : (l.length + 1) * K ≤ 20000000) (hM1 : (m.length + 1) * M ≤ 20000000) (hS : (Nt.dg C + ((l.length * K + 2) + Nt.dg C + (m.length * M + 2))) ≤ 40000000) (hx9 : l.length ≤ 1000000) (hy9 : m.length ≤ 1000000) :
    Calls Tryz.prog 27 #[x.v, y.v] w (Post u w fun v u' => ∃ (y1 y2 : Sl) (ql rl : List Rat) (e : Int), v = .tuple #[y1.v, y2.v, .int .i64 e] ∧ PolN u' y1 ql (Nt.dg C + ((l.length * K + 2) + Nt.dg C + (m.length * M + 2))) ∧ PolN u' y2 rl (Nt.dg C + ((l.length * K + 2) + Nt.dg C + (m.length * M + 2))) ∧ Nt.DMR l m ql rl e) :=
  Post.mono (k_poDivMod d hx hy hA hB hC hC9 hK1 hM1 hS hx9 hy9) fun v u' _ h => by
    rcases h with ⟨h1, h2⟩ | ⟨h1, y1, y2, q, r, h2, h3, h4, h5, h6⟩
    · exact ⟨⟨none, 0, 0⟩, ⟨none, 0, 0⟩, [], [], 3, h1, pol_nil _ _, pol_nil _ _, .inl ⟨rfl, h2, rfl, rfl⟩⟩
    · exact ⟨y1, y2, _, _, 0, h2, h3, h4, .inr ⟨rfl, h1, q, r, rfl, rfl, h5, h6⟩⟩
set_option exponentiation.threshold 1000 in
set_option maxHeartbeats 16000000 in
theorem w_divisions {u w : World} {x y xl xm : Sl} {p q : List Rat} {K M : Nat} {l m : List Int} (d : Dat u w) (hx : PolV u x p K) (hy : PolV u y q M) (hl : SlR .i64 u xl.a xl.n xl.c l) (hbl : ∀ z ∈ l, -9223372036854775808 ≤ z ∧ z ≤ 9223372036854775807) (hm : SlR .i64 u xm.a xm.n xm.c m) (hbm : ∀ z ∈ m, -9223372036854775808 ≤ z ∧ z ≤ 9223372036854775807) : Calls Tryz.prog 4 #[x.v, y.v, xl.v, xm.v] w (Post u w fun v _ => v = .bool true) := by
  have hlx := hx.len
  have hly := hy.len
  refine calls_sym (args := [.slice x.a x.n x.c, .slice y.a y.n y.c, .slice xl.a xl.n xl.c, .slice xm.a xm.n xm.c]) Tryz.func4 rfl Tryz.ntmps4 (rs := [.tmp 8]) Tryz.results4 (le_b rfl) (le_b rfl) d ?_
  refine sw_seq ?_
  refine sw_reg ?_
  refine sy_pure 8 (.v (.bool false)) ?_
  refine sy_next 103 [(0, .v (.slice x.a x.n x.c)), (1, .v (.slice y.a y.n y.c)), (2, .v (.slice xl.a xl.n xl.c)), (3, .v (.slice xm.a xm.n xm.c))] [] ?_
  refine sw_seq ?_
  refine sw_seq ?_
  refine sw_reg ?_
  refine sy_pure 16 (.v (.slice x.a x.n x.c)) ?_
  refine sy_call 17 25 [.slice x.a x.n x.c] ?_
  intro w11 u11 e11 d11
  have k15 := k_smallPoly d11 (hx.ext e11)
  with_reducible refine Post.mono k15 ?_
  clear k15
  rintro _ u13 g14 (⟨rfl, hs12, hp12⟩ | rfl)
  · skip
    refine sy_pure 18 (.v (.bool false)) ?_
    refine sy_pure 19 (.v (.bool false)) ?_
    refine sy_pure 20 (.v (.slice y.a y.n y.c)) ?_ (hw := w1 3 false 19)
    refine sy_call 21 25 [.slice y.a y.n y.c] ?_ (hw := w1 3 false 19)
    intro w16 u16 e16 d16
    have k20 := k_smallPoly d16 (hy.ext (e11.trans (g14.ext.trans e16)))
    with_reducible refine Post.mono k20 ?_
    clear k20
    rintro _ u18 g19 (⟨rfl, hs17, hp17⟩ | rfl)
    · skip
      refine sy_pure 22 (.v (.bool false)) ?_ (hw := w1 3 false 19)
      refine sy_pure 23 (.v (.bool false)) ?_
      refine sy_next 103 [(0, .v (.slice x.a x.n x.c)), (1, .v (.slice y.a y.n y.c)), (2, .v (.slice xl.a xl.n xl.c)), (3, .v (.slice xm.a xm.n xm.c)), (23, .v (.bool false))] [] ?_
      refine sw_false (by kernel_rfl) ?_
      refine sw_skip (mp_seq ?_)
      refine sw_seq ?_
      refine sw_seq ?_
      refine sw_reg ?_
      refine sy_pure 9 (.v (.int .i64 0)) ?_
      refine sy_next 103 [(0, .v (.slice x.a x.n x.c)), (1, .v (.slice y.a y.n y.c)), (2, .v (.slice xl.a xl.n xl.c)), (3, .v (.slice xm.a xm.n xm.c)), (9, .v (.int .i64 0))] [] ?_
      refine sw_block ?_
      refine sw_rounds 2 ?_
      refine sw_seq ?_
      refine sw_seq ?_
      refine sw_reg ?_
      refine sy_pure 25 (.v (.int .i64 0)) ?_
      refine sy_pure 26 (.v (.bool true)) ?_
      refine sy_next 103 [(0, .v (.slice x.a x.n x.c)), (1, .v (.slice y.a y.n y.c)), (2, .v (.slice xl.a xl.n xl.c)), (3, .v (.slice xm.a xm.n xm.c)), (9, .v (.int .i64 0)), (26, .v (.bool true))] [] ?_
      refine sw_true (by kernel_rfl) ?_
      refine sw_skip (mp_seq ?_)
      refine sw_seq ?_
      refine sw_block ?_
      refine sw_seq ?_
      obtain ⟨D21, hD21, hs21⟩ := Nt.any8 (PolV.all (hp12.ext (g14.ext.trans (e16.trans g19.ext)))) hs12
      obtain ⟨D22, hD22, hs22⟩ := Nt.any8 (PolV.all (hp17.ext g19.ext)) hs17
      refine sw_reg ?_
      refine sy_pure 30 (.v (.slice x.a x.n x.c)) ?_
      refine sy_pure 31 (.v (.slice y.a y.n y.c)) ?_
      refine sy_call 32 27 [.slice x.a x.n x.c, .slice y.a y.n y.c] ?_
      intro w23 u23 e23 d23
      have k27 := k_poDivModU (C := 5769) d23 (hp12.ext (g14.ext.trans (e16.trans (g19.ext.trans e23)))) (hp17.ext (g19.ext.trans e23)) hs21.prim hs22.prim (by have h9 := hs12; have h8 := hs17; omega) (by decide) (by have h9 := hs12; omega) (by have h9 := hs17; omega) (by have h9 := hs12; have h8 := hs17; have h7 : Nt.dg 5769 = 181 := (by decide +kernel); omega) (by have h9 := hs12; omega) (by have h9 := hs17; omega)
      with_reducible refine Post.mono k27 ?_
      clear k27
      rintro _ u25 g26 ⟨y24, z24, ql24, rl24, e24, rfl, ha24, hb24, hD24⟩
      have hly24 := ha24.len
      have hlz24 := hb24.len
      have hlly24 := hD24.len
      refine sy_pure 29 (.v (.tuple #[.slice y24.a y24.n y24.c, .slice z24.a z24.n z24.c, .int .i64 e24])) ?_
      refine sy_pure 33 (.v (.slice y24.a y24.n y24.c)) ?_
      refine sy_pure 34 (.v (.slice z24.a z24.n z24.c)) ?_
      refine sy_pure 35 (.v (.int .i64 e24)) ?_
      refine sy_pure 10 (.v (.slice y24.a y24.n y24.c)) ?_
      refine sy_pure 11 (.v (.slice z24.a z24.n z24.c)) ?_
      refine sy_pure 12 (.v (.int .i64 e24)) ?_
      refine sy_next 103 [(0, .v (.slice x.a x.n x.c)), (1, .v (.slice y.a y.n y.c)), (2, .v (.slice xl.a xl.n xl.c)), (3, .v (.slice xm.a xm.n xm.c)), (9, .v (.int .i64 0)), (10, .v (.slice y24.a y24.n y24.c)), (11, .v (.slice z24.a z24.n z24.c)), (12, .v (.int .i64 e24))] [] ?_
      refine sw_seq ?_
      refine sw_reg ?_
      refine sy_pure 37 (.v (.slice x.a x.n x.c)) ?_
      refine sy_pure 38 (.v (.slice y.a y.n y.c)) ?_
      refine sy_call 39 28 [.slice x.a x.n x.c, .slice y.a y.n y.c] ?_
      intro w28 u28 e28 d28
      have k32 := k_r5DivModU (C := 5769) d28 (hp12.ext (g14.ext.trans (e16.trans (g19.ext.trans (e23.trans (g26.ext.trans e28)))))) (hp17.ext (g19.ext.trans (e23.trans (g26.ext.trans e28)))) hs21 hD21 hs22 (Nat.le_trans (Nat.add_le_add_left (Nat.mul_le_mul_right _ (show _ ≤ 9 by have h9 := Nt.trim_len p; have h8 := hs12; omega)) _) (by decide)) (by decide) (by decide) (by decide) (by have h9 := hs12; omega) (by have h9 := hs17; omega)
      with_reducible refine Post.mono k32 ?_
      clear k32
      rintro _ u30 g31 ⟨y29, z29, ql29, rl29, e29, rfl, ha29, hb29, hD29⟩
      have hly29 := ha29.len
      have hlz29 := hb29.len
      have hlly29 := hD29.len
      refine sy_pure 36 (.v (.tuple #[.slice y29.a y29.n y29.c, .slice z29.a z29.n z29.c, .int .i64 e29])) ?_
      refine sy_pure 40 (.v (.slice y29.a y29.n y29.c)) ?_
      refine sy_pure 41 (.v (.slice z29.a z29.n z29.c)) ?_
      refine sy_pure 42 (.v (.int .i64 e29)) ?_
      refine sy_pure 13 (.v (.slice y29.a y29.n y29.c)) ?_
      refine sy_pure 14 (.v (.slice z29.a z29.n z29.c)) ?_
      refine sy_pure 15 (.v (.int .i64 e29)) ?_
      refine sy_next 103 [(0, .v (.slice x.a x.n x.c)), (1, .v (.slice y.a y.n y.c)), (2, .v (.slice xl.a xl.n xl.c)), (3, .v (.slice xm.a xm.n xm.c)), (9, .v (.int .i64 0)), (10, .v (.slice y24.a y24.n y24.c)), (11, .v (.slice z24.a z24.n z24.c)), (12, .v (.int .i64 e24)), (13, .v (.slice y29.a y29.n y29.c)), (14, .v (.slice z29.a z29.n z29.c)), (15, .v (.int .i64 e29))] [] ?_
      refine sw_seq ?_
      refine sw_seq ?_
      refine sw_reg ?_
      refine sy_pure 43 (.v (.int .i64 e24)) ?_
      refine sy_pure 44 (.v (.int .i64 e29)) ?_
      refine sy_pure 45 (.v (.bool (e24 != e29))) ?_
      refine sy_eq 46 (x := .v (.bool (e24 != e29))) (.v (.bool false)) (by rw [show (e24 != e29) = false from (by rw [(Nt.DMR.uniq hD24 hD29).2.2]; simp)]) ?_
      refine sy_pure 47 (.v (.slice y24.a y24.n y24.c)) ?_ (hw := w1 3 false 46)
      refine sy_pure 48 (.v (.slice y29.a y29.n y29.c)) ?_ (hw := w1 3 false 46)
      refine sy_call 49 29 [.slice y24.a y24.n y24.c, .slice y29.a y29.n y29.c] ?_ (hw := w1 3 false 46)
      intro w34 u34 e34 d34
      have k37 := k_r5Equal d34 (ha24.ext (e28.trans (g31.ext.trans e34))) (ha29.ext e34) (by first | omega | (simp; omega) | (refine Nat.le_trans (Nt.trim_len _) ?_; first | omega | (simp; omega)) | (refine Nat.le_trans (Nt.trim_len _) ?_; simp only [List.length_map]; refine Nat.le_trans (Nt.trim_len _) ?_; first | omega | (simp; omega))) (by first | omega | (simp; omega) | (refine Nat.le_trans (Nt.trim_len _) ?_; first | omega | (simp; omega)) | (refine Nat.le_trans (Nt.trim_len _) ?_; simp only [List.length_map]; refine Nat.le_trans (Nt.trim_len _) ?_; first | omega | (simp; omega)))
      with_reducible refine Post.mono k37 ?_
      clear k37
      rintro _ u35 g36 rfl
      refine sy_pure 50 (.v (.bool (!(decide (ql24 = ql29))))) ?_ (hw := w1 3 false 46)
      refine sy_pure 51 (.v (.bool (!(decide (ql24 = ql29))))) ?_
      refine sy_eq 52 (x := .v (.bool (!(decide (ql24 = ql29))))) (.v (.bool false)) (by rw [show (!(decide (ql24 = ql29))) = false from (by rw [decide_eq_true (Nt.DMR.uniq hD24 hD29).1]; rfl)]) ?_
      refine sy_pure 53 (.v (.slice z24.a z24.n z24.c)) ?_ (hw := w1 9 false 52)
      refine sy_pure 54 (.v (.slice z29.a z29.n z29.c)) ?_ (hw := w1 9 false 52)
      refine sy_call 55 29 [.slice z24.a z24.n z24.c, .slice z29.a z29.n z29.c] ?_ (hw := w1 9 false 52)
      intro w39 u39 e39 d39
      have k42 := k_r5Equal d39 (hb24.ext (e28.trans (g31.ext.trans (e34.trans (g36.ext.trans e39))))) (hb29.ext (e34.trans (g36.ext.trans e39))) (by first | omega | (simp; omega) | (refine Nat.le_trans (Nt.trim_len _) ?_; first | omega | (simp; omega)) | (refine Nat.le_trans (Nt.trim_len _) ?_; simp only [List.length_map]; refine Nat.le_trans (Nt.trim_len _) ?_; first | omega | (simp; omega))) (by first | omega | (simp; omega) | (refine Nat.le_trans (Nt.trim_len _) ?_; first | omega | (simp; omega)) | (refine Nat.le_trans (Nt.trim_len _) ?_; simp only [List.length_map]; refine Nat.le_trans (Nt.trim_len _) ?_; first | omega | (simp; omega)))
      with_reducible refine Post.mono k42 ?_
      clear k42
      rintro _ u40 g41 rfl
      refine sy_pure 56 (.v (.bool (!(decide (rl24 = rl29))))) ?_ (hw := w1 9 false 52)
      refine sy_pure 57 (.v (.bool (!(decide (rl24 = rl29))))) ?_
      refine sy_eq 58 (x := .v (.bool (!(decide (rl24 = rl29))))) (.v (.bool false)) (by rw [show (!(decide (rl24 = rl29))) = false from (by rw [decide_eq_true (Nt.DMR.uniq hD24 hD29).2.1]; rfl)]) ?_
      refine sy_pure 59 (.v (.slice x.a x.n x.c)) ?_ (hw := w1 15 false 58)
      refine sy_pure 60 (.v (.slice y.a y.n y.c)) ?_ (hw := w1 15 false 58)
      refine sy_call 61 30 [.slice x.a x.n x.c, .slice y.a y.n y.c] ?_ (hw := w1 15 false 58)
      intro w44 u44 e44 d44
      have k48 := k_poGcd (A := 576) (H := 6557020) (N := 8) d44 (hp12.ext (g14.ext.trans (e16.trans (g19.ext.trans (e23.trans (g26.ext.trans (e28.trans (g31.ext.trans (e34.trans (g36.ext.trans (e39.trans (g41.ext.trans e44)))))))))))) (hp17.ext (g19.ext.trans (e23.trans (g26.ext.trans (e28.trans (g31.ext.trans (e34.trans (g36.ext.trans (e39.trans (g41.ext.trans e44)))))))))) (Nt.WhL.more (hs21).prim (by decide)) (Nt.WhL.more (hs22).prim (by decide)) (Nat.le_trans (Nat.mul_le_mul_left _ (Nat.pow_le_pow_right (by decide) (show Nt.pot (Nt.trimQ p).length (Nt.trimQ q).length ≤ 17 from Nt.pot_le3 hs12 hs17))) (by decide +kernel)) (by decide) (by have h9 := hs12; omega) (by have h9 := hs17; omega) (by decide +kernel) (by have h9 := hs12; omega) (by have h9 := hs17; omega) (by decide)
      with_reducible refine Post.mono k48 ?_
      clear k48
      rintro _ u46 g47 ⟨z45, g45, W45, k45, rfl, hz45, hg45, hk45, hW45, hw45⟩
      have hlz45 := hz45.len
      have hk49 : PolN _ z45 g45.l 409816 := PolN.more hz45 (by decide +kernel)
      have hm50 : g45.l.length ≤ 8 := Nt.gcd_len hg45 hs12 hs17
      refine sy_pure 62 (.v (.slice x.a x.n x.c)) ?_ (hw := w1 15 false 58)
      refine sy_pure 63 (.v (.slice y.a y.n y.c)) ?_ (hw := w1 15 false 58)
      refine sy_call 64 31 [.slice x.a x.n x.c, .slice y.a y.n y.c] ?_ (hw := w1 15 false 58)
      intro w51 u51 e51 d51
      have k61 := k_r5Gcd (A := 576) (H := 6557020) (N := 8) d51 (hp12.ext (g14.ext.trans (e16.trans (g19.ext.trans (e23.trans (g26.ext.trans (e28.trans (g31.ext.trans (e34.trans (g36.ext.trans (e39.trans (g41.ext.trans (e44.trans (g47.ext.trans e51)))))))))))))) (hp17.ext (g19.ext.trans (e23.trans (g26.ext.trans (e28.trans (g31.ext.trans (e34.trans (g36.ext.trans (e39.trans (g41.ext.trans (e44.trans (g47.ext.trans e51)))))))))))) (Nt.WhL.more (hs21).prim (by decide)) (Nt.WhL.more (hs22).prim (by decide)) (Nat.le_trans (Nat.mul_le_mul_left _ (Nat.pow_le_pow_right (by decide) (show Nt.pot (Nt.trimQ p).length (Nt.trimQ q).length ≤ 17 from Nt.pot_le3 hs12 hs17))) (by decide +kernel)) hs12 hs17 (by decide) (by decide) (by decide) (by decide)
      with_reducible refine Post.mono k61 ?_
      clear k61
      rintro _ u59 g60 ⟨z52, g53, rfl, hz54, hg55, D56, hd57, hs58⟩
      have hlz52 := hz54.len
      have hmz52 : g53.l.length ≤ 8 := Nt.gcd_len hg55 hs12 hs17
      refine sy_call 65 29 [.slice z45.a z45.n z45.c, .slice z52.a z52.n z52.c] ?_ (hw := w1 15 false 58)
      intro w62 u62 e62 d62
      have k65 := k_r5Equal d62 (hk49.ext (e51.trans (g60.ext.trans e62))) (hz54.ext e62) (by first | omega | (simp; omega) | (refine Nat.le_trans (Nt.trim_len _) ?_; first | omega | (simp; omega)) | (refine Nat.le_trans (Nt.trim_len _) ?_; simp only [List.length_map]; refine Nat.le_trans (Nt.trim_len _) ?_; first | omega | (simp; omega))) (by first | omega | (simp; omega) | (refine Nat.le_trans (Nt.trim_len _) ?_; first | omega | (simp; omega)) | (refine Nat.le_trans (Nt.trim_len _) ?_; simp only [List.length_map]; refine Nat.le_trans (Nt.trim_len _) ?_; first | omega | (simp; omega)))
      with_reducible refine Post.mono k65 ?_
      clear k65
      rintro _ u63 g64 rfl
      refine sy_pure 66 (.v (.bool (!(decide (g45.l = g53.l))))) ?_ (hw := w1 15 false 58)
      refine sy_pure 67 (.v (.bool (!(decide (g45.l = g53.l))))) ?_
      refine sy_eq 68 (x := .v (.bool (!(decide (g45.l = g53.l))))) (.v (.bool false)) (by rw [show (!(decide (g45.l = g53.l))) = false from (by rw [decide_eq_true (Nt.gcd_same hg45 hg55)]; rfl)]) ?_
      refine sy_pure 69 (.v (.slice x.a x.n x.c)) ?_ (hw := w1 25 false 68)
      refine sy_call 70 32 [.slice x.a x.n x.c] ?_ (hw := w1 25 false 68)
      intro w67 u67 e67 d67
      have k72 := k_poMonic d67 (hp12.ext (g14.ext.trans (e16.trans (g19.ext.trans (e23.trans (g26.ext.trans (e28.trans (g31.ext.trans (e34.trans (g36.ext.trans (e39.trans (g41.ext.trans (e44.trans (g47.ext.trans (e51.trans (g60.ext.trans (e62.trans (g64.ext.trans e67)))))))))))))))))) (by omega) (by have h9 := hs12; omega)
      with_reducible refine Post.mono k72 ?_
      clear k72
      rintro _ u70 g71 ⟨y68, rfl, h69⟩
      have hly68 := h69.len
      have hm73 : (Nt.Pol.mk' p).monic.l.length ≤ 8 := Nt.monic_len hs12
      have hk74 : PolN _ y68 (Nt.Pol.mk' p).monic.l 6 := PolN.more h69 (by omega)
      refine sy_pure 71 (.v (.slice x.a x.n x.c)) ?_ (hw := w1 25 false 68)
      refine sy_call 72 33 [.slice x.a x.n x.c] ?_ (hw := w1 25 false 68)
      intro w75 u75 e75 d75
      have k80 := k_r5Monic d75 (hp12.ext (g14.ext.trans (e16.trans (g19.ext.trans (e23.trans (g26.ext.trans (e28.trans (g31.ext.trans (e34.trans (g36.ext.trans (e39.trans (g41.ext.trans (e44.trans (g47.ext.trans (e51.trans (g60.ext.trans (e62.trans (g64.ext.trans (e67.trans (g71.ext.trans e75)))))))))))))))))))) (by omega) (by omega)
      with_reducible refine Post.mono k80 ?_
      clear k80
      rintro _ u78 g79 ⟨y76, rfl, h77⟩
      have hly76 := h77.len
      refine sy_call 73 29 [.slice y68.a y68.n y68.c, .slice y76.a y76.n y76.c] ?_ (hw := w1 25 false 68)
      intro w81 u81 e81 d81
      have k84 := k_r5Equal d81 (hk74.ext (e75.trans (g79.ext.trans e81))) (h77.ext e81) (by first | omega | (simp; omega) | (refine Nat.le_trans (Nt.trim_len _) ?_; first | omega | (simp; omega)) | (refine Nat.le_trans (Nt.trim_len _) ?_; simp only [List.length_map]; refine Nat.le_trans (Nt.trim_len _) ?_; first | omega | (simp; omega))) (by first | omega | (simp; omega) | (refine Nat.le_trans (Nt.trim_len _) ?_; first | omega | (simp; omega)) | (refine Nat.le_trans (Nt.trim_len _) ?_; simp only [List.length_map]; refine Nat.le_trans (Nt.trim_len _) ?_; first | omega | (simp; omega)))
      with_reducible refine Post.mono k84 ?_
      clear k84
      rintro _ u82 g83 rfl
      refine sy_pure 74 (.v (.bool (!(decide ((Nt.Pol.mk' p).monic.l = (Nt.Pol.mk' p).monic.l))))) ?_ (hw := w1 25 false 68)
      refine sy_pure 75 (.v (.bool (!(decide ((Nt.Pol.mk' p).monic.l = (Nt.Pol.mk' p).monic.l))))) ?_
      refine sy_eq 76 (x := .v (.bool (!(decide ((Nt.Pol.mk' p).monic.l = (Nt.Pol.mk' p).monic.l))))) (.v (.bool false)) (by rw [show (!(decide ((Nt.Pol.mk' p).monic.l = (Nt.Pol.mk' p).monic.l))) = false from (by rw [decide_eq_true rfl]; rfl)]) ?_
      refine sy_pure 77 (.v (.slice x.a x.n x.c)) ?_ (hw := w1 33 false 76)
      refine sy_call 78 34 [.slice x.a x.n x.c] ?_ (hw := w1 33 false 76)
      intro w86 u86 e86 d86
      have k91 := k_poDerivative d86 (hp12.ext (g14.ext.trans (e16.trans (g19.ext.trans (e23.trans (g26.ext.trans (e28.trans (g31.ext.trans (e34.trans (g36.ext.trans (e39.trans (g41.ext.trans (e44.trans (g47.ext.trans (e51.trans (g60.ext.trans (e62.trans (g64.ext.trans (e67.trans (g71.ext.trans (e75.trans (g79.ext.trans (e81.trans (g83.ext.trans e86)))))))))))))))))))))))) (by omega) (by have h9 := hs12; omega)
      with_reducible refine Post.mono k91 ?_
      clear k91
      rintro _ u89 g90 ⟨y87, rfl, h88⟩
      have hly87 := h88.len
      have hm92 : (Nt.trimQ (Nt.derQ p)).length ≤ 7 := Nt.der_lenQ hs12
      have hs93 : Nt.Sm (Nt.trimQ (Nt.derQ p)) (D21) 580 := ((Nt.Sm.der (b := 4) hs21 (Nat.le_trans hs12 (by decide))).trim)
      have hk94 : PolN _ y87 (Nt.trimQ (Nt.derQ p)) 19 := PolN.fitS h88 hs93 (by first | decide +kernel | exact Nat.le_trans (by assumption) (Nat.pow_le_pow_right (by decide) (by decide)))
      refine sy_pure 79 (.v (.slice x.a x.n x.c)) ?_ (hw := w1 33 false 76)
      refine sy_call 80 35 [.slice x.a x.n x.c] ?_ (hw := w1 33 false 76)
      intro w95 u95 e95 d95
      have k100 := k_r5Derivative d95 (hp12.ext (g14.ext.trans (e16.trans (g19.ext.trans (e23.trans (g26.ext.trans (e28.trans (g31.ext.trans (e34.trans (g36.ext.trans (e39.trans (g41.ext.trans (e44.trans (g47.ext.trans (e51.trans (g60.ext.trans (e62.trans (g64.ext.trans (e67.trans (g71.ext.trans (e75.trans (g79.ext.trans (e81.trans (g83.ext.trans (e86.trans (g90.ext.trans e95)))))))))))))))))))))))))) (by omega) (by omega)
      with_reducible refine Post.mono k100 ?_
      clear k100
      rintro _ u98 g99 ⟨y96, rfl, h97⟩
      have hly96 := h97.len
      refine sy_call 81 29 [.slice y87.a y87.n y87.c, .slice y96.a y96.n y96.c] ?_ (hw := w1 33 false 76)
      intro w101 u101 e101 d101
      have k104 := k_r5Equal d101 (hk94.ext (e95.trans (g99.ext.trans e101))) (h97.ext e101) (by first | omega | (simp; omega) | (refine Nat.le_trans (Nt.trim_len _) ?_; first | omega | (simp; omega)) | (refine Nat.le_trans (Nt.trim_len _) ?_; simp only [List.length_map]; refine Nat.le_trans (Nt.trim_len _) ?_; first | omega | (simp; omega))) (by first | omega | (simp; omega) | (refine Nat.le_trans (Nt.trim_len _) ?_; first | omega | (simp; omega)) | (refine Nat.le_trans (Nt.trim_len _) ?_; simp only [List.length_map]; refine Nat.le_trans (Nt.trim_len _) ?_; first | omega | (simp; omega)))
      with_reducible refine Post.mono k104 ?_
      clear k104
      rintro _ u102 g103 rfl
      refine sy_pure 82 (.v (.bool (!(decide ((Nt.trimQ (Nt.derQ p)) = (Nt.trimQ (Nt.derQ p))))))) ?_ (hw := w1 33 false 76)
      refine sy_pure 83 (.v (.bool (!(decide ((Nt.trimQ (Nt.derQ p)) = (Nt.trimQ (Nt.derQ p))))))) ?_
      refine sy_eq 84 (x := .v (.bool (!(decide ((Nt.trimQ (Nt.derQ p)) = (Nt.trimQ (Nt.derQ p))))))) (.v (.bool false)) (by rw [show (!(decide ((Nt.trimQ (Nt.derQ p)) = (Nt.trimQ (Nt.derQ p))))) = false from (by rw [decide_eq_true rfl]; rfl)]) ?_
      refine sy_pure 85 (.v (.slice x.a x.n x.c)) ?_ (hw := w1 41 false 84)
      refine sy_call 86 36 [.slice x.a x.n x.c] ?_ (hw := w1 41 false 84)
      intro w106 u106 e106 d106
      have k113 := k_poSquarefree (l := p) (A := 579) (H := 2197038) (N := 8) (C := 19773930) d106 (hp12.ext (g14.ext.trans (e16.trans (g19.ext.trans (e23.trans (g26.ext.trans (e28.trans (g31.ext.trans (e34.trans (g36.ext.trans (e39.trans (g41.ext.trans (e44.trans (g47.ext.trans (e51.trans (g60.ext.trans (e62.trans (g64.ext.trans (e67.trans (g71.ext.trans (e75.trans (g79.ext.trans (e81.trans (g83.ext.trans (e86.trans (g90.ext.trans (e95.trans (g99.ext.trans (e101.trans (g103.ext.trans e106)))))))))))))))))))))))))))))) (Nt.WhL.more hs21.prim (by decide)) (((Nt.Sm.der (b := 3) hs21 (Nat.le_trans hs12 (by decide))).trim).prim) (Nat.le_trans (Nat.mul_le_mul_left _ (Nat.pow_le_pow_right (by decide) (show 2 * (p.length - 1) + 1 ≤ 15 by have h9 := hs12; omega))) (by decide +kernel)) (by decide) hs12 (by decide +kernel) (by have h9 := hs12; omega) (by decide) (by have h9 := hs12; omega) (by have h9 := hs12; have h8 : Nt.dg 19773930 = 617936 := (by decide +kernel); have h7 : Nt.dg 2197038 = 68658 := (by decide +kernel); omega) (by decide)
      with_reducible refine Post.mono k113 ?_
      clear k113
      rintro _ u111 g112 ⟨z107, s108, rfl, hz109, hs110⟩
      have hlz107 := hz109.len
      have hmz107 : s108.l.length ≤ 8 := Nt.sqf_len hs110 hs12
      refine sy_pure 87 (.v (.slice x.a x.n x.c)) ?_ (hw := w1 41 false 84)
      refine sy_call 88 37 [.slice x.a x.n x.c] ?_ (hw := w1 41 false 84)
      intro w114 u114 e114 d114
      have k121 := k_r5Squarefree (l := p) (A0 := 576) (A := 579) (H := 2197038) (N := 8) (b := 3) d114 (hp12.ext (g14.ext.trans (e16.trans (g19.ext.trans (e23.trans (g26.ext.trans (e28.trans (g31.ext.trans (e34.trans (g36.ext.trans (e39.trans (g41.ext.trans (e44.trans (g47.ext.trans (e51.trans (g60.ext.trans (e62.trans (g64.ext.trans (e67.trans (g71.ext.trans (e75.trans (g79.ext.trans (e81.trans (g83.ext.trans (e86.trans (g90.ext.trans (e95.trans (g99.ext.trans (e101.trans (g103.ext.trans (e106.trans (g112.ext.trans e114)))))))))))))))))))))))))))))))) hs21 hD21 (Nat.le_trans hs12 (by decide)) (by decide) (Nat.le_trans (Nat.mul_le_mul_left _ (Nat.pow_le_pow_right (by decide) (show 2 * (p.length - 1) + 1 ≤ 15 by have h9 := hs12; omega))) (by decide +kernel)) hs12 (by decide) (by decide) (by decide) (by decide)
      with_reducible refine Post.mono k121 ?_
      clear k121
      rintro _ u119 g120 ⟨z115, s116, rfl, hz117, hs118⟩
      have hlz115 := hz117.len
      have hmz115 : s116.l.length ≤ 8 := Nt.sqf_len hs118 hs12
      refine sy_call 89 29 [.slice z107.a z107.n z107.c, .slice z115.a z115.n z115.c] ?_ (hw := w1 41 false 84)
      intro w122 u122 e122 d122
      have k125 := k_r5Equal d122 (hz109.ext (e114.trans (g120.ext.trans e122))) (hz117.ext e122) (by first | omega | (simp; omega) | (refine Nat.le_trans (Nt.trim_len _) ?_; first | omega | (simp; omega)) | (refine Nat.le_trans (Nt.trim_len _) ?_; simp only [List.length_map]; refine Nat.le_trans (Nt.trim_len _) ?_; first | omega | (simp; omega))) (by first | omega | (simp; omega) | (refine Nat.le_trans (Nt.trim_len _) ?_; first | omega | (simp; omega)) | (refine Nat.le_trans (Nt.trim_len _) ?_; simp only [List.length_map]; refine Nat.le_trans (Nt.trim_len _) ?_; first | omega | (simp; omega)))
      with_reducible refine Post.mono k125 ?_
      clear k125
      rintro _ u123 g124 rfl
      refine sy_pure 90 (.v (.bool (!(decide (s108.l = s116.l))))) ?_ (hw := w1 41 false 84)
      refine sy_eq 91 (x := .v (.bool (!(decide (s108.l = s116.l))))) (.v (.bool false)) (by rw [show (!(decide (s108.l = s116.l))) = false from (by rw [decide_eq_true (Nt.sqf_same hs110 hs118)]; rfl)]) ?_
      refine sy_next 103 [(2, .v (.slice xl.a xl.n xl.c)), (3, .v (.slice xm.a xm.n xm.c)), (9, .v (.int .i64 0)), (91, .v (.bool false))] [] ?_
      refine sw_false (by kernel_rfl) ?_
      refine sw_skip (mp_seq ?_)
      refine sw_seq ?_
      refine sw_reg ?_
      refine sy_pure 93 (.v (.slice xl.a xl.n xl.c)) ?_
      refine sy_call 94 38 [.slice xl.a xl.n xl.c] ?_
      intro w126 u126 e126 d126
      have k130 := k_rooted d126 (hl.ext (e11.trans (g14.ext.trans (e16.trans (g19.ext.trans (e23.trans (g26.ext.trans (e28.trans (g31.ext.trans (e34.trans (g36.ext.trans (e39.trans (g41.ext.trans (e44.trans (g47.ext.trans (e51.trans (g60.ext.trans (e62.trans (g64.ext.trans (e67.trans (g71.ext.trans (e75.trans (g79.ext.trans (e81.trans (g83.ext.trans (e86.trans (g90.ext.trans (e95.trans (g99.ext.trans (e101.trans (g103.ext.trans (e106.trans (g112.ext.trans (e114.trans (g120.ext.trans (e122.trans (g124.ext.trans e126))))))))))))))))))))))))))))))))))))) hbl
      with_reducible refine Post.mono k130 ?_
      clear k130
      rintro _ u128 g129 ⟨y127, z127, pl127, rs127, rfl, ha127, hb127, hf127⟩
      have hly127 := ha127.len
      have hlz127 := hb127.len
      refine sy_pure 92 (.v (.tuple #[.slice y127.a y127.n y127.c, .slice z127.a z127.n z127.c])) ?_
      refine sy_pure 95 (.v (.slice y127.a y127.n y127.c)) ?_
      refine sy_pure 96 (.v (.slice z127.a z127.n z127.c)) ?_
      refine sy_pure 0 (.v (.slice y127.a y127.n y127.c)) ?_
      refine sy_next 103 [(0, .v (.slice y127.a y127.n y127.c)), (2, .v (.slice xl.a xl.n xl.c)), (3, .v (.slice xm.a xm.n xm.c)), (9, .v (.int .i64 0))] [] ?_
      refine sw_reg ?_
      refine sy_pure 98 (.v (.slice xm.a xm.n xm.c)) ?_
      refine sy_call 99 38 [.slice xm.a xm.n xm.c] ?_
      intro w131 u131 e131 d131
      have k135 := k_rooted d131 (hm.ext (e11.trans (g14.ext.trans (e16.trans (g19.ext.trans (e23.trans (g26.ext.trans (e28.trans (g31.ext.trans (e34.trans (g36.ext.trans (e39.trans (g41.ext.trans (e44.trans (g47.ext.trans (e51.trans (g60.ext.trans (e62.trans (g64.ext.trans (e67.trans (g71.ext.trans (e75.trans (g79.ext.trans (e81.trans (g83.ext.trans (e86.trans (g90.ext.trans (e95.trans (g99.ext.trans (e101.trans (g103.ext.trans (e106.trans (g112.ext.trans (e114.trans (g120.ext.trans (e122.trans (g124.ext.trans (e126.trans (g129.ext.trans e131))))))))))))))))))))))))))))))))))))))) hbm
      with_reducible refine Post.mono k135 ?_
      clear k135
      rintro _ u133 g134 ⟨y132, z132, pl132, rs132, rfl, ha132, hb132, hf132⟩
      have hly132 := ha132.len
      have hlz132 := hb132.len
      refine sy_pure 97 (.v (.tuple #[.slice y132.a y132.n y132.c, .slice z132.a z132.n z132.c])) ?_
      refine sy_pure 100 (.v (.slice y132.a y132.n y132.c)) ?_
      refine sy_pure 101 (.v (.slice z132.a z132.n z132.c)) ?_
      refine sy_pure 1 (.v (.slice y132.a y132.n y132.c)) ?_
      refine sy_end ?_
      refine mp_seq ?_
      refine sw_reg ?_
      refine sy_pure 27 (.v (.int .i64 0)) ?_
      refine sy_pure 28 (.v (.int .i64 1)) ?_
      refine sy_pure 9 (.v (.int .i64 1)) ?_
      refine sy_end ?_
      refine rn_next ?_
      refine sw_weak (T := St.of 103 [(0, .v (.slice y127.a y127.n y127.c)), (1, .v (.slice y132.a y132.n y132.c)), (2, .v (.slice xl.a xl.n xl.c)), (3, .v (.slice xm.a xm.n xm.c)), (9, .v (.int .i64 1))] []) (by exact weak_mk _ _ _) ?_
      refine sw_seq ?_
      refine sw_seq ?_
      refine sw_reg ?_
      refine sy_pure 25 (.v (.int .i64 1)) ?_
      refine sy_pure 26 (.v (.bool true)) ?_
      refine sy_next 103 [(0, .v (.slice y127.a y127.n y127.c)), (1, .v (.slice y132.a y132.n y132.c)), (2, .v (.slice xl.a xl.n xl.c)), (3, .v (.slice xm.a xm.n xm.c)), (9, .v (.int .i64 1)), (26, .v (.bool true))] [] ?_
      refine sw_true (by kernel_rfl) ?_
      refine sw_skip (mp_seq ?_)
      refine sw_seq ?_
      refine sw_block ?_
      refine sw_seq ?_
      obtain ⟨hq136, D136, hD136, hs136⟩ := hf127
      obtain ⟨hq137, D137, hD137, hs137⟩ := hf132
      refine sw_reg ?_
      refine sy_pure 30 (.v (.slice y127.a y127.n y127.c)) ?_
      refine sy_pure 31 (.v (.slice y132.a y132.n y132.c)) ?_
      refine sy_call 32 27 [.slice y127.a y127.n y127.c, .slice y132.a y132.n y132.c] ?_
      intro w138 u138 e138 d138
      have k142 := k_poDivModU (C := 895) d138 (ha127.ext (e131.trans (g134.ext.trans e138))).raw (ha132.ext e138).raw hs136.prim hs137.prim (by have h9 := hq136; have h8 := hq137; omega) (by decide) (by have h9 := hq136; omega) (by have h9 := hq137; omega) (by have h9 := hq136; have h8 := hq137; have h7 : Nt.dg 895 = 28 := (by decide +kernel); omega) (by have h9 := hq136; omega) (by have h9 := hq137; omega)
      with_reducible refine Post.mono k142 ?_
      clear k142
      rintro _ u140 g141 ⟨y139, z139, ql139, rl139, e139, rfl, ha139, hb139, hD139⟩
      have hly139 := ha139.len
      have hlz139 := hb139.len
      have hlly139 := hD139.len
      refine sy_pure 29 (.v (.tuple #[.slice y139.a y139.n y139.c, .slice z139.a z139.n z139.c, .int .i64 e139])) ?_
      refine sy_pure 33 (.v (.slice y139.a y139.n y139.c)) ?_
      refine sy_pure 34 (.v (.slice z139.a z139.n z139.c)) ?_
      refine sy_pure 35 (.v (.int .i64 e139)) ?_
      refine sy_pure 10 (.v (.slice y139.a y139.n y139.c)) ?_
      refine sy_pure 11 (.v (.slice z139.a z139.n z139.c)) ?_
      refine sy_pure 12 (.v (.int .i64 e139)) ?_
      refine sy_next 103 [(0, .v (.slice y127.a y127.n y127.c)), (1, .v (.slice y132.a y132.n y132.c)), (2, .v (.slice xl.a xl.n xl.c)), (3, .v (.slice xm.a xm.n xm.c)), (9, .v (.int .i64 1)), (10, .v (.slice y139.a y139.n y139.c)), (11, .v (.slice z139.a z139.n z139.c)), (12, .v (.int .i64 e139))] [] ?_
      refine sw_seq ?_
      refine sw_reg ?_
      refine sy_pure 37 (.v (.slice y127.a y127.n y127.c)) ?_
      refine sy_pure 38 (.v (.slice y132.a y132.n y132.c)) ?_
      refine sy_call 39 28 [.slice y127.a y127.n y127.c, .slice y132.a y132.n y132.c] ?_
      intro w143 u143 e143 d143
      have k147 := k_r5DivModU (C := 895) d143 (ha127.ext (e131.trans (g134.ext.trans (e138.trans (g141.ext.trans e143))))).raw (ha132.ext (e138.trans (g141.ext.trans e143))).raw hs136 hD136 hs137 (Nat.le_trans (Nat.add_le_add_left (Nat.mul_le_mul_right _ (show _ ≤ 13 by have h9 := Nt.trim_len pl127; have h8 := hq136; omega)) _) (by decide)) (by decide) (by decide) (by decide) (by have h9 := hq136; omega) (by have h9 := hq137; omega)
      with_reducible refine Post.mono k147 ?_
      clear k147
      rintro _ u145 g146 ⟨y144, z144, ql144, rl144, e144, rfl, ha144, hb144, hD144⟩
      have hly144 := ha144.len
      have hlz144 := hb144.len
      have hlly144 := hD144.len
      refine sy_pure 36 (.v (.tuple #[.slice y144.a y144.n y144.c, .slice z144.a z144.n z144.c, .int .i64 e144])) ?_
      refine sy_pure 40 (.v (.slice y144.a y144.n y144.c)) ?_
      refine sy_pure 41 (.v (.slice z144.a z144.n z144.c)) ?_
      refine sy_pure 42 (.v (.int .i64 e144)) ?_
      refine sy_pure 13 (.v (.slice y144.a y144.n y144.c)) ?_
      refine sy_pure 14 (.v (.slice z144.a z144.n z144.c)) ?_
      refine sy_pure 15 (.v (.int .i64 e144)) ?_
      refine sy_next 103 [(0, .v (.slice y127.a y127.n y127.c)), (1, .v (.slice y132.a y132.n y132.c)), (2, .v (.slice xl.a xl.n xl.c)), (3, .v (.slice xm.a xm.n xm.c)), (9, .v (.int .i64 1)), (10, .v (.slice y139.a y139.n y139.c)), (11, .v (.slice z139.a z139.n z139.c)), (12, .v (.int .i64 e139)), (13, .v (.slice y144.a y144.n y144.c)), (14, .v (.slice z144.a z144.n z144.c)), (15, .v (.int .i64 e144))] [] ?_
      refine sw_seq ?_
      refine sw_seq ?_
      refine sw_reg ?_
      refine sy_pure 43 (.v (.int .i64 e139)) ?_
      refine sy_pure 44 (.v (.int .i64 e144)) ?_
      refine sy_pure 45 (.v (.bool (e139 != e144))) ?_
      refine sy_eq 46 (x := .v (.bool (e139 != e144))) (.v (.bool false)) (by rw [show (e139 != e144) = false from (by rw [(Nt.DMR.uniq hD139 hD144).2.2]; simp)]) ?_
      refine sy_pure 47 (.v (.slice y139.a y139.n y139.c)) ?_ (hw := w1 3 false 46)
      refine sy_pure 48 (.v (.slice y144.a y144.n y144.c)) ?_ (hw := w1 3 false 46)
      refine sy_call 49 29 [.slice y139.a y139.n y139.c, .slice y144.a y144.n y144.c] ?_ (hw := w1 3 false 46)
      intro w149 u149 e149 d149
      have k152 := k_r5Equal d149 (ha139.ext (e143.trans (g146.ext.trans e149))) (ha144.ext e149) (by first | omega | (simp; omega) | (refine Nat.le_trans (Nt.trim_len _) ?_; first | omega | (simp; omega)) | (refine Nat.le_trans (Nt.trim_len _) ?_; simp only [List.length_map]; refine Nat.le_trans (Nt.trim_len _) ?_; first | omega | (simp; omega))) (by first | omega | (simp; omega) | (refine Nat.le_trans (Nt.trim_len _) ?_; first | omega | (simp; omega)) | (refine Nat.le_trans (Nt.trim_len _) ?_; simp only [List.length_map]; refine Nat.le_trans (Nt.trim_len _) ?_; first | omega | (simp; omega)))
      with_reducible refine Post.mono k152 ?_
      clear k152
      rintro _ u150 g151 rfl
      refine sy_pure 50 (.v (.bool (!(decide (ql139 = ql144))))) ?_ (hw := w1 3 false 46)
      refine sy_pure 51 (.v (.bool (!(decide (ql139 = ql144))))) ?_
      refine sy_eq 52 (x := .v (.bool (!(decide (ql139 = ql144))))) (.v (.bool false)) (by rw [show (!(decide (ql139 = ql144))) = false from (by rw [decide_eq_true (Nt.DMR.uniq hD139 hD144).1]; rfl)]) ?_
      refine sy_pure 53 (.v (.slice z139.a z139.n z139.c)) ?_ (hw := w1 9 false 52)
      refine sy_pure 54 (.v (.slice z144.a z144.n z144.c)) ?_ (hw := w1 9 false 52)
      refine sy_call 55 29 [.slice z139.a z139.n z139.c, .slice z144.a z144.n z144.c] ?_ (hw := w1 9 false 52)
      intro w154 u154 e154 d154
      have k157 := k_r5Equal d154 (hb139.ext (e143.trans (g146.ext.trans (e149.trans (g151.ext.trans e154))))) (hb144.ext (e149.trans (g151.ext.trans e154))) (by first | omega | (simp; omega) | (refine Nat.le_trans (Nt.trim_len _) ?_; first | omega | (simp; omega)) | (refine Nat.le_trans (Nt.trim_len _) ?_; simp only [List.length_map]; refine Nat.le_trans (Nt.trim_len _) ?_; first | omega | (simp; omega))) (by first | omega | (simp; omega) | (refine Nat.le_trans (Nt.trim_len _) ?_; first | omega | (simp; omega)) | (refine Nat.le_trans (Nt.trim_len _) ?_; simp only [List.length_map]; refine Nat.le_trans (Nt.trim_len _) ?_; first | omega | (simp; omega)))
      with_reducible refine Post.mono k157 ?_
      clear k157
      rintro _ u155 g156 rfl
      refine sy_pure 56 (.v (.bool (!(decide (rl139 = rl144))))) ?_ (hw := w1 9 false 52)
      refine sy_pure 57 (.v (.bool (!(decide (rl139 = rl144))))) ?_
      refine sy_eq 58 (x := .v (.bool (!(decide (rl139 = rl144))))) (.v (.bool false)) (by rw [show (!(decide (rl139 = rl144))) = false from (by rw [decide_eq_true (Nt.DMR.uniq hD139 hD144).2.1]; rfl)]) ?_
      refine sy_pure 59 (.v (.slice y127.a y127.n y127.c)) ?_ (hw := w1 15 false 58)
      refine sy_pure 60 (.v (.slice y132.a y132.n y132.c)) ?_ (hw := w1 15 false 58)
      refine sy_call 61 30 [.slice y127.a y127.n y127.c, .slice y132.a y132.n y132.c] ?_ (hw := w1 15 false 58)
      intro w159 u159 e159 d159
      have k163 := k_poGcd (A := 63) (H := 58910901) (N := 12) d159 (ha127.ext (e131.trans (g134.ext.trans (e138.trans (g141.ext.trans (e143.trans (g146.ext.trans (e149.trans (g151.ext.trans (e154.trans (g156.ext.trans e159))))))))))).raw (ha132.ext (e138.trans (g141.ext.trans (e143.trans (g146.ext.trans (e149.trans (g151.ext.trans (e154.trans (g156.ext.trans e159))))))))).raw (Nt.WhL.more (hs136).prim (by decide)) (Nt.WhL.more (hs137).prim (by decide)) (Nat.le_trans (Nat.mul_le_mul_left _ (Nat.pow_le_pow_right (by decide) (show Nt.pot (Nt.trimQ pl127).length (Nt.trimQ pl132).length ≤ 25 from Nt.pot_le3 hq136 hq137))) (by decide +kernel)) (by decide) (by have h9 := hq136; omega) (by have h9 := hq137; omega) (by decide +kernel) (by have h9 := hq136; omega) (by have h9 := hq137; omega) (by decide)
      with_reducible refine Post.mono k163 ?_
      clear k163
      rintro _ u161 g162 ⟨z160, g160, W160, k160, rfl, hz160, hg160, hk160, hW160, hw160⟩
      have hlz160 := hz160.len
      have hk164 : PolN _ z160 g160.l 3681934 := PolN.more hz160 (by decide +kernel)
      have hm165 : g160.l.length ≤ 12 := Nt.gcd_len hg160 hq136 hq137
      refine sy_pure 62 (.v (.slice y127.a y127.n y127.c)) ?_ (hw := w1 15 false 58)
      refine sy_pure 63 (.v (.slice y132.a y132.n y132.c)) ?_ (hw := w1 15 false 58)
      refine sy_call 64 31 [.slice y127.a y127.n y127.c, .slice y132.a y132.n y132.c] ?_ (hw := w1 15 false 58)
      intro w166 u166 e166 d166
      have k176 := k_r5Gcd (A := 63) (H := 58910901) (N := 12) d166 (ha127.ext (e131.trans (g134.ext.trans (e138.trans (g141.ext.trans (e143.trans (g146.ext.trans (e149.trans (g151.ext.trans (e154.trans (g156.ext.trans (e159.trans (g162.ext.trans e166))))))))))))).raw (ha132.ext (e138.trans (g141.ext.trans (e143.trans (g146.ext.trans (e149.trans (g151.ext.trans (e154.trans (g156.ext.trans (e159.trans (g162.ext.trans e166))))))))))).raw (Nt.WhL.more (hs136).prim (by decide)) (Nt.WhL.more (hs137).prim (by decide)) (Nat.le_trans (Nat.mul_le_mul_left _ (Nat.pow_le_pow_right (by decide) (show Nt.pot (Nt.trimQ pl127).length (Nt.trimQ pl132).length ≤ 25 from Nt.pot_le3 hq136 hq137))) (by decide +kernel)) hq136 hq137 (by decide) (by decide) (by decide) (by decide)
      with_reducible refine Post.mono k176 ?_
      clear k176
      rintro _ u174 g175 ⟨z167, g168, rfl, hz169, hg170, D171, hd172, hs173⟩
      have hlz167 := hz169.len
      have hmz167 : g168.l.length ≤ 12 := Nt.gcd_len hg170 hq136 hq137
      refine sy_call 65 29 [.slice z160.a z160.n z160.c, .slice z167.a z167.n z167.c] ?_ (hw := w1 15 false 58)
      intro w177 u177 e177 d177
      have k180 := k_r5Equal d177 (hk164.ext (e166.trans (g175.ext.trans e177))) (hz169.ext e177) (by first | omega | (simp; omega) | (refine Nat.le_trans (Nt.trim_len _) ?_; first | omega | (simp; omega)) | (refine Nat.le_trans (Nt.trim_len _) ?_; simp only [List.length_map]; refine Nat.le_trans (Nt.trim_len _) ?_; first | omega | (simp; omega))) (by first | omega | (simp; omega) | (refine Nat.le_trans (Nt.trim_len _) ?_; first | omega | (simp; omega)) | (refine Nat.le_trans (Nt.trim_len _) ?_; simp only [List.length_map]; refine Nat.le_trans (Nt.trim_len _) ?_; first | omega | (simp; omega)))
      with_reducible refine Post.mono k180 ?_
      clear k180
      rintro _ u178 g179 rfl
      refine sy_pure 66 (.v (.bool (!(decide (g160.l = g168.l))))) ?_ (hw := w1 15 false 58)
      refine sy_pure 67 (.v (.bool (!(decide (g160.l = g168.l))))) ?_
      refine sy_eq 68 (x := .v (.bool (!(decide (g160.l = g168.l))))) (.v (.bool false)) (by rw [show (!(decide (g160.l = g168.l))) = false from (by rw [decide_eq_true (Nt.gcd_same hg160 hg170)]; rfl)]) ?_
      refine sy_pure 69 (.v (.slice y127.a y127.n y127.c)) ?_ (hw := w1 25 false 68)
      refine sy_call 70 32 [.slice y127.a y127.n y127.c] ?_ (hw := w1 25 false 68)
      intro w182 u182 e182 d182
      have k187 := k_poMonic d182 (ha127.ext (e131.trans (g134.ext.trans (e138.trans (g141.ext.trans (e143.trans (g146.ext.trans (e149.trans (g151.ext.trans (e154.trans (g156.ext.trans (e159.trans (g162.ext.trans (e166.trans (g175.ext.trans (e177.trans (g179.ext.trans e182))))))))))))))))).raw (by omega) (by have h9 := hq136; omega)
      with_reducible refine Post.mono k187 ?_
      clear k187
      rintro _ u185 g186 ⟨y183, rfl, h184⟩
      have hly183 := h184.len
      have hm188 : (Nt.Pol.mk' pl127).monic.l.length ≤ 12 := Nt.monic_len hq136
      have hk189 : PolN _ y183 (Nt.Pol.mk' pl127).monic.l 6 := PolN.more h184 (by omega)
      refine sy_pure 71 (.v (.slice y127.a y127.n y127.c)) ?_ (hw := w1 25 false 68)
      refine sy_call 72 33 [.slice y127.a y127.n y127.c] ?_ (hw := w1 25 false 68)
      intro w190 u190 e190 d190
      have k195 := k_r5Monic d190 (ha127.ext (e131.trans (g134.ext.trans (e138.trans (g141.ext.trans (e143.trans (g146.ext.trans (e149.trans (g151.ext.trans (e154.trans (g156.ext.trans (e159.trans (g162.ext.trans (e166.trans (g175.ext.trans (e177.trans (g179.ext.trans (e182.trans (g186.ext.trans e190))))))))))))))))))).raw (by omega) (by omega)
      with_reducible refine Post.mono k195 ?_
      clear k195
      rintro _ u193 g194 ⟨y191, rfl, h192⟩
      have hly191 := h192.len
      refine sy_call 73 29 [.slice y183.a y183.n y183.c, .slice y191.a y191.n y191.c] ?_ (hw := w1 25 false 68)
      intro w196 u196 e196 d196
      have k199 := k_r5Equal d196 (hk189.ext (e190.trans (g194.ext.trans e196))) (h192.ext e196) (by first | omega | (simp; omega) | (refine Nat.le_trans (Nt.trim_len _) ?_; first | omega | (simp; omega)) | (refine Nat.le_trans (Nt.trim_len _) ?_; simp only [List.length_map]; refine Nat.le_trans (Nt.trim_len _) ?_; first | omega | (simp; omega))) (by first | omega | (simp; omega) | (refine Nat.le_trans (Nt.trim_len _) ?_; first | omega | (simp; omega)) | (refine Nat.le_trans (Nt.trim_len _) ?_; simp only [List.length_map]; refine Nat.le_trans (Nt.trim_len _) ?_; first | omega | (simp; omega)))
      with_reducible refine Post.mono k199 ?_
      clear k199
      rintro _ u197 g198 rfl
      refine sy_pure 74 (.v (.bool (!(decide ((Nt.Pol.mk' pl127).monic.l = (Nt.Pol.mk' pl127).monic.l))))) ?_ (hw := w1 25 false 68)
      refine sy_pure 75 (.v (.bool (!(decide ((Nt.Pol.mk' pl127).monic.l = (Nt.Pol.mk' pl127).monic.l))))) ?_
      refine sy_eq 76 (x := .v (.bool (!(decide ((Nt.Pol.mk' pl127).monic.l = (Nt.Pol.mk' pl127).monic.l))))) (.v (.bool false)) (by rw [show (!(decide ((Nt.Pol.mk' pl127).monic.l = (Nt.Pol.mk' pl127).monic.l))) = false from (by rw [decide_eq_true rfl]; rfl)]) ?_
      refine sy_pure 77 (.v (.slice y127.a y127.n y127.c)) ?_ (hw := w1 33 false 76)
      refine sy_call 78 34 [.slice y127.a y127.n y127.c] ?_ (hw := w1 33 false 76)
      intro w201 u201 e201 d201
      have k206 := k_poDerivative d201 (ha127.ext (e131.trans (g134.ext.trans (e138.trans (g141.ext.trans (e143.trans (g146.ext.trans (e149.trans (g151.ext.trans (e154.trans (g156.ext.trans (e159.trans (g162.ext.trans (e166.trans (g175.ext.trans (e177.trans (g179.ext.trans (e182.trans (g186.ext.trans (e190.trans (g194.ext.trans (e196.trans (g198.ext.trans e201))))))))))))))))))))))).raw (by omega) (by have h9 := hq136; omega)
      with_reducible refine Post.mono k206 ?_
      clear k206
      rintro _ u204 g205 ⟨y202, rfl, h203⟩
      have hly202 := h203.len
      have hm207 : (Nt.trimQ (Nt.derQ pl127)).length ≤ 11 := Nt.der_lenQ hq136
      have hs208 : Nt.Sm (Nt.trimQ (Nt.derQ pl127)) (D136) 67 := ((Nt.Sm.der (b := 4) hs136 (Nat.le_trans hq136 (by decide))).trim)
      have hk209 : PolN _ y202 (Nt.trimQ (Nt.derQ pl127)) 3 := PolN.fitS h203 hs208 (by first | decide +kernel | exact Nat.le_trans (by assumption) (Nat.pow_le_pow_right (by decide) (by decide)))
      refine sy_pure 79 (.v (.slice y127.a y127.n y127.c)) ?_ (hw := w1 33 false 76)
      refine sy_call 80 35 [.slice y127.a y127.n y127.c] ?_ (hw := w1 33 false 76)
      intro w210 u210 e210 d210
      have k215 := k_r5Derivative d210 (ha127.ext (e131.trans (g134.ext.trans (e138.trans (g141.ext.trans (e143.trans (g146.ext.trans (e149.trans (g151.ext.trans (e154.trans (g156.ext.trans (e159.trans (g162.ext.trans (e166.trans (g175.ext.trans (e177.trans (g179.ext.trans (e182.trans (g186.ext.trans (e190.trans (g194.ext.trans (e196.trans (g198.ext.trans (e201.trans (g205.ext.trans e210))))))))))))))))))))))))).raw (by omega) (by omega)
      with_reducible refine Post.mono k215 ?_
      clear k215
      rintro _ u213 g214 ⟨y211, rfl, h212⟩
      have hly211 := h212.len
      refine sy_call 81 29 [.slice y202.a y202.n y202.c, .slice y211.a y211.n y211.c] ?_ (hw := w1 33 false 76)
      intro w216 u216 e216 d216
      have k219 := k_r5Equal d216 (hk209.ext (e210.trans (g214.ext.trans e216))) (h212.ext e216) (by first | omega | (simp; omega) | (refine Nat.le_trans (Nt.trim_len _) ?_; first | omega | (simp; omega)) | (refine Nat.le_trans (Nt.trim_len _) ?_; simp only [List.length_map]; refine Nat.le_trans (Nt.trim_len _) ?_; first | omega | (simp; omega))) (by first | omega | (simp; omega) | (refine Nat.le_trans (Nt.trim_len _) ?_; first | omega | (simp; omega)) | (refine Nat.le_trans (Nt.trim_len _) ?_; simp only [List.length_map]; refine Nat.le_trans (Nt.trim_len _) ?_; first | omega | (simp; omega)))
      with_reducible refine Post.mono k219 ?_
      clear k219
      rintro _ u217 g218 rfl
      refine sy_pure 82 (.v (.bool (!(decide ((Nt.trimQ (Nt.derQ pl127)) = (Nt.trimQ (Nt.derQ pl127))))))) ?_ (hw := w1 33 false 76)
      refine sy_pure 83 (.v (.bool (!(decide ((Nt.trimQ (Nt.derQ pl127)) = (Nt.trimQ (Nt.derQ pl127))))))) ?_
      refine sy_eq 84 (x := .v (.bool (!(decide ((Nt.trimQ (Nt.derQ pl127)) = (Nt.trimQ (Nt.derQ pl127))))))) (.v (.bool false)) (by rw [show (!(decide ((Nt.trimQ (Nt.derQ pl127)) = (Nt.trimQ (Nt.derQ pl127))))) = false from (by rw [decide_eq_true rfl]; rfl)]) ?_
      refine sy_pure 85 (.v (.slice y127.a y127.n y127.c)) ?_ (hw := w1 41 false 84)
      refine sy_call 86 36 [.slice y127.a y127.n y127.c] ?_ (hw := w1 41 false 84)
      intro w221 u221 e221 d221
      have k228 := k_poSquarefree (l := pl127) (A := 67) (H := 20864278) (N := 12) (C := 271235694) d221 (ha127.ext (e131.trans (g134.ext.trans (e138.trans (g141.ext.trans (e143.trans (g146.ext.trans (e149.trans (g151.ext.trans (e154.trans (g156.ext.trans (e159.trans (g162.ext.trans (e166.trans (g175.ext.trans (e177.trans (g179.ext.trans (e182.trans (g186.ext.trans (e190.trans (g194.ext.trans (e196.trans (g198.ext.trans (e201.trans (g205.ext.trans (e210.trans (g214.ext.trans (e216.trans (g218.ext.trans e221))))))))))))))))))))))))))))).raw (Nt.WhL.more hs136.prim (by decide)) (((Nt.Sm.der (b := 4) hs136 (Nat.le_trans hq136 (by decide))).trim).prim) (Nat.le_trans (Nat.mul_le_mul_left _ (Nat.pow_le_pow_right (by decide) (show 2 * (pl127.length - 1) + 1 ≤ 23 by have h9 := hq136; omega))) (by decide +kernel)) (by decide) hq136 (by decide +kernel) (by have h9 := hq136; omega) (by decide) (by have h9 := hq136; omega) (by have h9 := hq136; have h8 : Nt.dg 271235694 = 8476116 := (by decide +kernel); have h7 : Nt.dg 20864278 = 652009 := (by decide +kernel); omega) (by decide)
      with_reducible refine Post.mono k228 ?_
      clear k228
      rintro _ u226 g227 ⟨z222, s223, rfl, hz224, hs225⟩
      have hlz222 := hz224.len
      have hmz222 : s223.l.length ≤ 12 := Nt.sqf_len hs225 hq136
      refine sy_pure 87 (.v (.slice y127.a y127.n y127.c)) ?_ (hw := w1 41 false 84)
      refine sy_call 88 37 [.slice y127.a y127.n y127.c] ?_ (hw := w1 41 false 84)
      intro w229 u229 e229 d229
      have k236 := k_r5Squarefree (l := pl127) (A0 := 63) (A := 67) (H := 20864278) (N := 12) (b := 4) d229 (ha127.ext (e131.trans (g134.ext.trans (e138.trans (g141.ext.trans (e143.trans (g146.ext.trans (e149.trans (g151.ext.trans (e154.trans (g156.ext.trans (e159.trans (g162.ext.trans (e166.trans (g175.ext.trans (e177.trans (g179.ext.trans (e182.trans (g186.ext.trans (e190.trans (g194.ext.trans (e196.trans (g198.ext.trans (e201.trans (g205.ext.trans (e210.trans (g214.ext.trans (e216.trans (g218.ext.trans (e221.trans (g227.ext.trans e229))))))))))))))))))))))))))))))).raw hs136 hD136 (Nat.le_trans hq136 (by decide)) (by decide) (Nat.le_trans (Nat.mul_le_mul_left _ (Nat.pow_le_pow_right (by decide) (show 2 * (pl127.length - 1) + 1 ≤ 23 by have h9 := hq136; omega))) (by decide +kernel)) hq136 (by decide) (by decide) (by decide) (by decide)
      with_reducible refine Post.mono k236 ?_
      clear k236
      rintro _ u234 g235 ⟨z230, s231, rfl, hz232, hs233⟩
      have hlz230 := hz232.len
      have hmz230 : s231.l.length ≤ 12 := Nt.sqf_len hs233 hq136
      refine sy_call 89 29 [.slice z222.a z222.n z222.c, .slice z230.a z230.n z230.c] ?_ (hw := w1 41 false 84)
      intro w237 u237 e237 d237
      have k240 := k_r5Equal d237 (hz224.ext (e229.trans (g235.ext.trans e237))) (hz232.ext e237) (by first | omega | (simp; omega) | (refine Nat.le_trans (Nt.trim_len _) ?_; first | omega | (simp; omega)) | (refine Nat.le_trans (Nt.trim_len _) ?_; simp only [List.length_map]; refine Nat.le_trans (Nt.trim_len _) ?_; first | omega | (simp; omega))) (by first | omega | (simp; omega) | (refine Nat.le_trans (Nt.trim_len _) ?_; first | omega | (simp; omega)) | (refine Nat.le_trans (Nt.trim_len _) ?_; simp only [List.length_map]; refine Nat.le_trans (Nt.trim_len _) ?_; first | omega | (simp; omega)))
      with_reducible refine Post.mono k240 ?_
      clear k240
      rintro _ u238 g239 rfl
      refine sy_pure 90 (.v (.bool (!(decide (s223.l = s231.l))))) ?_ (hw := w1 41 false 84)
      refine sy_eq 91 (x := .v (.bool (!(decide (s223.l = s231.l))))) (.v (.bool false)) (by rw [show (!(decide (s223.l = s231.l))) = false from (by rw [decide_eq_true (Nt.sqf_same hs225 hs233)]; rfl)]) ?_
      refine sy_next 103 [(2, .v (.slice xl.a xl.n xl.c)), (3, .v (.slice xm.a xm.n xm.c)), (9, .v (.int .i64 1)), (91, .v (.bool false))] [] ?_
      refine sw_false (by kernel_rfl) ?_
      refine sw_skip (mp_seq ?_)
      refine sw_seq ?_
      refine sw_reg ?_
      refine sy_pure 93 (.v (.slice xl.a xl.n xl.c)) ?_
      refine sy_call 94 38 [.slice xl.a xl.n xl.c] ?_
      intro w241 u241 e241 d241
      have k245 := k_rooted d241 (hl.ext (e11.trans (g14.ext.trans (e16.trans (g19.ext.trans (e23.trans (g26.ext.trans (e28.trans (g31.ext.trans (e34.trans (g36.ext.trans (e39.trans (g41.ext.trans (e44.trans (g47.ext.trans (e51.trans (g60.ext.trans (e62.trans (g64.ext.trans (e67.trans (g71.ext.trans (e75.trans (g79.ext.trans (e81.trans (g83.ext.trans (e86.trans (g90.ext.trans (e95.trans (g99.ext.trans (e101.trans (g103.ext.trans (e106.trans (g112.ext.trans (e114.trans (g120.ext.trans (e122.trans (g124.ext.trans (e126.trans (g129.ext.trans (e131.trans (g134.ext.trans (e138.trans (g141.ext.trans (e143.trans (g146.ext.trans (e149.trans (g151.ext.trans (e154.trans (g156.ext.trans (e159.trans (g162.ext.trans (e166.trans (g175.ext.trans (e177.trans (g179.ext.trans (e182.trans (g186.ext.trans (e190.trans (g194.ext.trans (e196.trans (g198.ext.trans (e201.trans (g205.ext.trans (e210.trans (g214.ext.trans (e216.trans (g218.ext.trans (e221.trans (g227.ext.trans (e229.trans (g235.ext.trans (e237.trans (g239.ext.trans e241))))))))))))))))))))))))))))))))))))))))))))))))))))))))))))))))))))))))) hbl
      with_reducible refine Post.mono k245 ?_
      clear k245
      rintro _ u243 g244 ⟨y242, z242, pl242, rs242, rfl, ha242, hb242, hf242⟩
      have hly242 := ha242.len
      have hlz242 := hb242.len
      refine sy_pure 92 (.v (.tuple #[.slice y242.a y242.n y242.c, .slice z242.a z242.n z242.c])) ?_
      refine sy_pure 95 (.v (.slice y242.a y242.n y242.c)) ?_
      refine sy_pure 96 (.v (.slice z242.a z242.n z242.c)) ?_
      refine sy_pure 0 (.v (.slice y242.a y242.n y242.c)) ?_
      refine sy_next 103 [(0, .v (.slice y242.a y242.n y242.c)), (2, .v (.slice xl.a xl.n xl.c)), (3, .v (.slice xm.a xm.n xm.c)), (9, .v (.int .i64 1))] [] ?_
      refine sw_reg ?_
      refine sy_pure 98 (.v (.slice xm.a xm.n xm.c)) ?_
      refine sy_call 99 38 [.slice xm.a xm.n xm.c] ?_
      intro w246 u246 e246 d246
      have k250 := k_rooted d246 (hm.ext (e11.trans (g14.ext.trans (e16.trans (g19.ext.trans (e23.trans (g26.ext.trans (e28.trans (g31.ext.trans (e34.trans (g36.ext.trans (e39.trans (g41.ext.trans (e44.trans (g47.ext.trans (e51.trans (g60.ext.trans (e62.trans (g64.ext.trans (e67.trans (g71.ext.trans (e75.trans (g79.ext.trans (e81.trans (g83.ext.trans (e86.trans (g90.ext.trans (e95.trans (g99.ext.trans (e101.trans (g103.ext.trans (e106.trans (g112.ext.trans (e114.trans (g120.ext.trans (e122.trans (g124.ext.trans (e126.trans (g129.ext.trans (e131.trans (g134.ext.trans (e138.trans (g141.ext.trans (e143.trans (g146.ext.trans (e149.trans (g151.ext.trans (e154.trans (g156.ext.trans (e159.trans (g162.ext.trans (e166.trans (g175.ext.trans (e177.trans (g179.ext.trans (e182.trans (g186.ext.trans (e190.trans (g194.ext.trans (e196.trans (g198.ext.trans (e201.trans (g205.ext.trans (e210.trans (g214.ext.trans (e216.trans (g218.ext.trans (e221.trans (g227.ext.trans (e229.trans (g235.ext.trans (e237.trans (g239.ext.trans (e241.trans (g244.ext.trans e246))))))))))))))))))))))))))))))))))))))))))))))))))))))))))))))))))))))))))) hbm
      with_reducible refine Post.mono k250 ?_
      clear k250
      rintro _ u248 g249 ⟨y247, z247, pl247, rs247, rfl, ha247, hb247, hf247⟩
      have hly247 := ha247.len
      have hlz247 := hb247.len
      refine sy_pure 97 (.v (.tuple #[.slice y247.a y247.n y247.c, .slice z247.a z247.n z247.c])) ?_
      refine sy_pure 100 (.v (.slice y247.a y247.n y247.c)) ?_
      refine sy_pure 101 (.v (.slice z247.a z247.n z247.c)) ?_
      refine sy_pure 1 (.v (.slice y247.a y247.n y247.c)) ?_
      refine sy_end ?_
      refine mp_seq ?_
      refine sw_reg ?_
      refine sy_pure 27 (.v (.int .i64 1)) ?_
      refine sy_pure 28 (.v (.int .i64 2)) ?_
      refine sy_pure 9 (.v (.int .i64 2)) ?_
      refine sy_end ?_
      refine rn_next ?_
      refine sw_weak (T := St.of 103 [(0, .v (.slice y242.a y242.n y242.c)), (1, .v (.slice y247.a y247.n y247.c)), (2, .v (.slice xl.a xl.n xl.c)), (3, .v (.slice xm.a xm.n xm.c)), (9, .v (.int .i64 2))] []) (by exact weak_mk _ _ _) ?_
      refine sw_seq ?_
      refine sw_seq ?_
      refine sw_reg ?_
      refine sy_pure 25 (.v (.int .i64 2)) ?_
      refine sy_pure 26 (.v (.bool false)) ?_
      refine sy_next 103 [(0, .v (.slice y242.a y242.n y242.c)), (1, .v (.slice y247.a y247.n y247.c)), (2, .v (.slice xl.a xl.n xl.c)), (3, .v (.slice xm.a xm.n xm.c)), (9, .v (.int .i64 2)), (26, .v (.bool false))] [] ?_
      refine sw_false (by kernel_rfl) ?_
      refine sw_exit ?_
      refine mp_seq ?_
      refine sw_seq ?_
      refine sw_reg ?_
      refine sy_call 102 26 [] ?_
      intro w251 u251 e251 d251
      have k254 := k_awake5 d251
      with_reducible refine Post.mono k254 ?_
      clear k254
      rintro _ u252 g253 rfl
      refine sy_pure 8 (.v (.bool true)) ?_
      refine sy_next 103 [(8, .v (.bool true))] [] ?_
      refine sw_ret (ret0 [.bool true] ⟨res_tmp, trivial⟩ fun u255 e256 => ?_)
      exact rfl
    · skip
      refine sy_pure 22 (.v (.bool true)) ?_ (hw := w1 3 false 19)
      refine sy_pure 23 (.v (.bool true)) ?_
      refine sy_next 103 [(0, .v (.slice x.a x.n x.c)), (1, .v (.slice y.a y.n y.c)), (2, .v (.slice xl.a xl.n xl.c)), (3, .v (.slice xm.a xm.n xm.c)), (23, .v (.bool true))] [] ?_
      refine sw_true (by kernel_rfl) ?_
      refine sw_seq ?_
      refine sw_reg ?_
      refine sy_call 24 26 [] ?_
      intro w257 u257 e257 d257
      have k260 := k_awake5 d257
      with_reducible refine Post.mono k260 ?_
      clear k260
      rintro _ u258 g259 rfl
      refine sy_pure 8 (.v (.bool true)) ?_
      refine sy_next 103 [(8, .v (.bool true))] [] ?_
      refine sw_ret (mpr_seq (ret0 [.bool true] ⟨res_tmp, trivial⟩ fun u261 e262 => ?_))
      exact rfl
  · skip
    refine sy_pure 18 (.v (.bool true)) ?_
    refine sy_pure 19 (.v (.bool true)) ?_
    refine sy_drop 20 (uw 3 false true 19) ?_
    refine sy_drop 21 (uw 3 false true 19) ?_
    refine sy_drop 22 (uw 3 false true 19) ?_
    refine sy_pure 23 (.v (.bool true)) ?_
    refine sy_next 103 [(0, .v (.slice x.a x.n x.c)), (1, .v (.slice y.a y.n y.c)), (2, .v (.slice xl.a xl.n xl.c)), (3, .v (.slice xm.a xm.n xm.c)), (23, .v (.bool true))] [] ?_
    refine sw_true (by kernel_rfl) ?_
    refine sw_seq ?_
    refine sw_reg ?_
    refine sy_call 24 26 [] ?_
    intro w263 u263 e263 d263
    have k266 := k_awake5 d263
    with_reducible refine Post.mono k266 ?_
    clear k266
    rintro _ u264 g265 rfl
    refine sy_pure 8 (.v (.bool true)) ?_
    refine sy_next 103 [(8, .v (.bool true))] [] ?_
    refine sw_ret (mpr_seq (ret0 [.bool true] ⟨res_tmp, trivial⟩ fun u267 e268 => ?_))
    exact rfl
end Go.Proofs.YtnedhbidmfoegaaGreat

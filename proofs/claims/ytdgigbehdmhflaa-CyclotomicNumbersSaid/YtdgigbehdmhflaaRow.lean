/- From the reading of an argument (a slice of ints) to the words of the walks. -/
import Derived.Test.YtdgigbehdmhflaaCycH
import Derived.OpenShut
namespace Go.Proofs.Ytdgigbehdmhflaa
open Go.RowKit

theorem slr_of_row {w : World} {a : Option Addr} {len cap : Nat} {zs : List Int}
    (h : (a = none ∧ len = 0 ∧ cap = 0 ∧ zs = []) ∨ ∃ x, a = some x ∧ len ≤ cap ∧ cap ≤ maxLen ∧ zs.length = cap ∧ (∀ i, i < zs.length → w.cell? (x.add i) = some (.int .i64 (zs.getD i 0))) ∧ ∀ n ∈ zs, (Lit.int .i64 n).wf = true) :
    SlR .i64 w a len cap (zs.take len) ∧ Fit (zs.take len) := by
  rcases h with ⟨rfl, rfl, rfl, rfl⟩ | ⟨x, rfl, hl, hm, hz, hc, hw⟩
  · exact ⟨SlR.nil w none 0 (Nat.zero_le _), fun i => by simp⟩
  · refine ⟨⟨by simp; omega, hl, hm, fun hp => ?_⟩, fun i => ?_⟩
    · obtain ⟨b, o, sp⟩ := x
      have h0 := hc 0 (by omega)
      have hsp : sp = none := by simpa [Addr.add] using World.cell?_spot h0
      subst hsp
      refine ⟨b, o, rfl, ?_, fun i hi => ?_⟩
      · have := block_lt_of_cell h0
        simpa [Addr.add] using this
      · have := hc i (by omega)
        rw [show (⟨b, o, none⟩ : Addr).add i = ⟨b, o + i, none⟩ by unfold Addr.add; split <;> simp_all] at this
        rw [this, List.getElem?_take_of_lt hi]
        simp
    · rcases Nat.lt_or_ge i (zs.take len).length with hi | hi
      · rw [List.getElem?_eq_getElem hi]
        have := hw _ (List.mem_of_mem_take (List.getElem_mem hi))
        exact bounds_i64 this
      · rw [List.getElem?_eq_none hi]; simp
end Go.Proofs.Ytdgigbehdmhflaa

/- A row of numbers that is handed in, opened. It speaks of no program. -/
import Derived.Test.YtnioljagmimojaaRow
import Derived.OpenShut
set_option linter.unusedVariables false
namespace Cb
open Go Go.Deep Go.ChangeShapes Go.WideShapes
section
variable {H : Type} {enc : TypeId × Value → H} {P : Program} {w : World} {base : Nat} {spare : Nat → Bool} {held : Bool}
theorem open_nums {t e : TypeId} {fuel : Nat} {v : Value} {x : DataW H × List MemPlace} (ht : P.underlying t = some (.slice e)) (he : P.underlying e = some (.int .i64)) (hc : P.cellsOf e = 1)
    (h : DataW.trod enc P w base spare held fuel t [v] = some x) : ∃ xs : List Int, Sl No w v xs ∧ (xs = [] ∨ ∃ es sp, x.1 = .slice es sp ∧ xs.length ≤ es.length) := by
  rcases open_slice1 ht hc h with ⟨hv, _⟩ | ⟨a, len, cap, m, n, V, D, Pl, hv, _, hl, hm, hmm, hxx, hx⟩
  · simp only [List.cons.injEq, and_true] at hv
    subst hv
    exact ⟨[], Sl.nil _ _ _ _, .inl rfl⟩
  · simp only [List.cons.injEq, and_true] at hv
    subst hv
    have hlm : len ≤ m := by rw [hmm]; split <;> omega
    have each : ∀ i, i < m → ∃ q : Int, V i = .int .i64 q := fun i hi => by
      obtain ⟨q, e1, _⟩ := DataW.trod_int he (hx i hi).2
      simp only [List.cons.injEq, and_true] at e1
      exact ⟨q, e1⟩
    by_cases hl0 : len = 0
    · subst hl0; exact ⟨[], Sl.nil _ _ _ _, .inl rfl⟩
    · obtain ⟨q, hq⟩ := choose_lt each
      obtain ⟨b, off, spot⟩ := a
      have hspot : spot = none := by simpa [Addr.add] using World.cell?_spot (hx 0 (by omega)).1
      subst hspot
      have hlen : ((List.range len).map q).length = len := by simp
      have hb : b < w.heap.size := by
        have := World.block_lt_of_cell? w _ (hx 0 (by omega)).1
        rw [add_plain'] at this; exact this
      refine ⟨(List.range len).map q, ⟨some ⟨b, off, none⟩, cap, by rw [hlen], by rw [hlen]; exact hl, .inr ⟨b, off, rfl, not_no _, hb, fun i hi => ?_⟩⟩, .inr ⟨_, _, by rw [hxx], by simp⟩⟩
      rw [hlen] at hi
      have k0 := (hx i (by omega)).1
      rw [add_plain', hq i (by omega)] at k0
      refine ⟨[.int .i64 (q i)], by rw [List.getElem_map, List.getElem_range]; rfl, fun j u hu => ?_⟩
      match j, hu with
      | 0, hu => simp at hu; subst hu; simpa [show Rep.n Int = 1 from rfl] using k0
end
end Cb

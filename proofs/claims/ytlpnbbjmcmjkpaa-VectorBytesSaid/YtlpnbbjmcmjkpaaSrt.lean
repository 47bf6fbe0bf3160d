/- A row of numbers of the call's own is sorted by the library. -/
import Derived.Test.YtlpnbbjmcmjkpaaLayS
import Derived.Test.YtlpnbbjmcmjkpaaVecA
import Derived.Sort.OwnSortedInts
set_option linter.unusedVariables false
namespace Go.Proofs.Ytlpnbbjmcmjkpaa
open Go.RowKit Cb Go.Sort Go.Proofs

def sortI (xs : List Int) : List Int := xs.mergeSort fun x y => decide (x ≤ y)
theorem sortI_len (xs : List Int) : (sortI xs).length = xs.length := List.length_mergeSort xs
theorem vsort_any {w : World} {base : Nat} {v : Value} {xs : List Int} (h : Cb.Own No w base 3 v xs) (hx : 0 < xs.length) (hl : xs.length ≤ 1000000) :
    Calls Try.prog 41 #[v] w fun e w' => e = .returned (.tuple #[]) ∧ Cb.Own No w' base 3 v (sortI xs) ∧ Chg (OB v) w w' := by
  obtain ⟨ds, hd, hc, ho1, ho2⟩ := h
  have hds : ds.flatten = xs.map (Value.int .i64) := by
    have : ds = xs.map fun x => [Value.int .i64 x] := by
      apply List.ext_getElem
      · simp [hd]
      · intro i h1 h2
        rw [List.getElem_map]
        exact hc i (by simpa using h2) h1
    rw [this, flatten_single]
  rw [hds] at ho1 ho2
  rcases ho2 with ⟨_, h0⟩ | ⟨g, cap, cur, rfl, hbg, hg, hnc, hm, hs, ht⟩
  · omega
  · have hH := holds_of_blockI (w := w) (g := g) (ss := xs) hg (by rw [show Rep.n Int = 1 from rfl, Nat.mul_one] at ht; exact ht)
    have hcall := AnyM.slices_Sort_int sortA g 0 cap xs w hH (lt_of_heap hg) (by omega)
    refine Calls.mono hcall ?_
    rintro e w' ⟨rfl, n, os, rfl⟩
    have hrow := ownsRow_sortedI (n := n) (os := os) (ts := sortI xs) (ss := xs) (sortI_len xs) hbg hg hnc hm hs
    have hgb := grownBy_sortedI (w := w) (g := g) (n := n) (os := os) (sortI xs).toArray
    refine ⟨rfl, ⟨(sortI xs).map fun x => [Value.int .i64 x], by simp, fun i hi hi' => by rw [List.getElem_map]; rfl, ?_⟩, ?_⟩
    · rw [flatten_single, sortI_len]
      exact hrow
    · exact (Chg.refl _ w).grown hgb (fun k e => by cases e; exact .inl rfl)
end Go.Proofs.Ytlpnbbjmcmjkpaa

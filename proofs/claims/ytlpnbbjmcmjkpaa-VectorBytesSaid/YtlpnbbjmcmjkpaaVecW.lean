/- The document's quorum, in plain words: of all numbers that there are the greatest one that so many have. -/
import Derived.Test.YtlpnbbjmcmjkpaaVecO
set_option linter.unusedVariables false
set_option linter.unusedSimpArgs false
namespace Go.Proofs.Ytlpnbbjmcmjkpaa
open Go.RowKit Cb

def cntF (col : List Int) (x : Int) : Nat := col.countP fun y => decide (x ≤ y)
def bestS (col : List Int) (need : Nat) (b x : Int) : Int := if b < x ∧ need ≤ cntF col x then x else b
def bestF (col : List Int) (need : Nat) (i : Nat) : Int := (col.take i).foldl (bestS col need) 0
theorem best_succ (col : List Int) (need i : Nat) (h : i < col.length) : bestF col need (i + 1) = bestS col need (bestF col need i) col[i] := by
  unfold bestF; rw [List.take_succ_eq_append_getElem h, List.foldl_append]; rfl
theorem best_inv (col : List Int) (need : Nat) : ∀ i, i ≤ col.length → (bestF col need i = 0 ∨ (bestF col need i ∈ col ∧ need ≤ cntF col (bestF col need i))) ∧ 0 ≤ bestF col need i ∧ ∀ j (h : j < col.length), j < i → need ≤ cntF col col[j] → col[j] ≤ bestF col need i := by
  intro i
  induction i with
  | zero => intro _; exact ⟨.inl rfl, Int.le_refl _, fun _ _ h => by omega⟩
  | succ i ih =>
    intro hi
    obtain ⟨h1, h2, h3⟩ := ih (by omega)
    rw [best_succ col need i (by omega)]
    unfold bestS
    split
    · rename_i hc
      refine ⟨.inr ⟨List.getElem_mem _, hc.2⟩, by omega, fun j h hj hn => ?_⟩
      rcases Nat.lt_or_ge j i with h' | h'
      · have := h3 j h h' hn; omega
      · obtain rfl : j = i := by omega
        exact Int.le_refl _
    · rename_i hc
      refine ⟨h1, h2, fun j h hj hn => ?_⟩
      rcases Nat.lt_or_ge j i with h' | h'
      · exact h3 j h h' hn
      · obtain rfl : j = i := by omega
        rcases Int.lt_or_le (bestF col need j) col[j] with h'' | h''
        · exact absurd ⟨h'', hn⟩ hc
        · exact h''
theorem cnt_sort (col : List Int) (x : Int) : cntF col x = cntF (sortI col) x := ((List.mergeSort_perm col _).countP_eq _).symm
theorem best_eq {col : List Int} {need : Nat} (h1 : 1 ≤ need) (h2 : need ≤ col.length) (h0 : ∀ x ∈ col, 0 ≤ x) : bestF col need col.length = (sortI col).getD (col.length - need) 0 := by
  have hl := sortI_len col
  have hm : col.length - need < (sortI col).length := by omega
  obtain ⟨m, hmd⟩ : ∃ m, m = col.length - need := ⟨_, rfl⟩
  rw [← hmd] at hm ⊢
  have ht : (sortI col).getD m 0 = (sortI col)[m] := by rw [List.getD_eq_getElem?_getD, List.getElem?_eq_getElem hm]; rfl
  have hpair := List.pairwise_iff_getElem.1 (sort_pair col)
  have hmono : ∀ i j (hi : i < (sortI col).length) (hj : j < (sortI col).length), i ≤ j → (sortI col)[i] ≤ (sortI col)[j] := fun i j hi hj hij => by
    rcases Nat.lt_or_ge i j with h | h
    · exact hpair i j hi hj h
    · obtain rfl : i = j := by omega
      exact Int.le_refl _
  have hmem : (sortI col)[m] ∈ col := (sort_mem col).1 (List.getElem_mem hm)
  have hge : need ≤ cntF col (sortI col)[m] := by
    rw [cnt_sort]
    have e : sortI col = (sortI col).take m ++ (sortI col).drop m := (List.take_append_drop _ _).symm
    have h3 : cntF ((sortI col).drop m) (sortI col)[m] = ((sortI col).drop m).length := by
      unfold cntF
      rw [List.countP_eq_length]
      intro y hy
      obtain ⟨i, hi, rfl⟩ := List.mem_iff_getElem.1 hy
      rw [List.getElem_drop]
      rw [List.length_drop] at hi
      simpa using hmono m (m + i) hm (by omega) (by omega)
    have h4 : cntF (sortI col) (sortI col)[m] = cntF ((sortI col).take m) (sortI col)[m] + cntF ((sortI col).drop m) (sortI col)[m] := by
      conv => lhs; unfold cntF; arg 2; rw [e]
      rw [List.countP_append]; rfl
    rw [h4, h3, List.length_drop]
    omega
  have hle : ∀ x, need ≤ cntF col x → x ≤ (sortI col)[m] := fun x hx => by
    rcases Int.lt_or_le (sortI col)[m] x with h | h
    · exfalso
      rw [cnt_sort] at hx
      have e : sortI col = (sortI col).take (m + 1) ++ (sortI col).drop (m + 1) := (List.take_append_drop _ _).symm
      have h3 : cntF ((sortI col).take (m + 1)) x = 0 := by
        unfold cntF
        rw [List.countP_eq_zero]
        intro y hy
        obtain ⟨i, hi, rfl⟩ := List.mem_iff_getElem.1 hy
        rw [List.getElem_take]
        rw [List.length_take] at hi
        have := hmono i m (by omega) hm (by omega)
        simp; omega
      have h4 : cntF (sortI col) x = cntF ((sortI col).take (m + 1)) x + cntF ((sortI col).drop (m + 1)) x := by
        conv => lhs; unfold cntF; arg 2; rw [e]
        rw [List.countP_append]; rfl
      have h5 : cntF ((sortI col).drop (m + 1)) x ≤ ((sortI col).drop (m + 1)).length := List.countP_le_length
      rw [List.length_drop] at h5
      omega
    · exact h
  obtain ⟨i1, i2, i3⟩ := best_inv col need col.length (Nat.le_refl _)
  rw [ht]
  obtain ⟨j, hj, e⟩ := List.mem_iff_getElem.1 hmem
  have h6 := i3 j hj hj (by rw [e]; exact hge)
  rw [e] at h6
  rcases i1 with h7 | ⟨_, h7⟩
  · rw [h7] at h6 ⊢
    have := h0 _ hmem
    omega
  · have := hle _ h7
    omega
end Go.Proofs.Ytlpnbbjmcmjkpaa

/- Plain laws of the register's rows: what stays. -/
import Derived.Test.YtbjpoamnglfjeaaRegU
set_option linter.unusedVariables false
set_option linter.unusedSimpArgs false
namespace Go.Proofs.Ytbjpoamnglfjeaa
open Go.RowKit Cb

theorem install_last (rows : List Rw) (t : Int) (q : List Int) (s : List (List Int)) (l : List Ent) (hi : 0 < rows.length) (i : Nat) (h : i < rows.length) :
    ∃ h' : i < (installF rows t q s l).2.length, ((installF rows t q s l).2[i]).1 = rows[i].1 ∧ ((installF rows t q s l).2[i]).2.1 = rows[i].2.1 ∧ ((installF rows t q s l).2[i]).2.2.1 = rows[i].2.2.1 := by
  rcases installF_cases rows t q s l hi with h1 | ⟨-, -, -, -, -, h6⟩
  · exact ⟨by rw [h1]; exact h, by simp only [h1], by simp only [h1], by simp only [h1]⟩
  · have h7 : (installF rows t q s l).2 = newR rows t q s l := by rw [h6]; rfl
    have hn := newR_len rows t q s l
    have h8 : i < (newR rows t q s l).length := by omega
    have g := newR_get rows t q s l i h8
    rw [if_neg (by omega), rowA_get rows i h] at g
    refine ⟨by rw [h7]; exact h8, ?_⟩
    simp only [h7, g]
    split <;> exact ⟨rfl, rfl, rfl⟩
theorem install_grows (rows : List Rw) (t : Int) (q : List Int) (s : List (List Int)) (l : List Ent) (hi : 0 < rows.length) :
    ((installF rows t q s l).2.length = rows.length) ∨ ((installF rows t q s l).2.length = rows.length + 1 ∧ (installF rows t q s l).1 = 0) := by
  rcases installF_cases rows t q s l hi with h1 | ⟨-, -, -, -, -, h6⟩
  · left; rw [h1]
  · right; rw [h6]; exact ⟨newR_len rows t q s l, rfl⟩
theorem firstR_get {rows : List Rw} (h : 0 < rows.length) : firstR rows = rows[0].1 := by
  cases rows with
  | nil => simp at h
  | cons a b => rfl
theorem atR_in {rows : List Rw} {t : Int} {i : Nat} (h : i < rows.length) (ht : t = firstR rows + i) : atR rows t = some i := by
  unfold atR
  rw [if_pos (by omega)]
  congr 1
  omega
/-- What was installed is installed once more, and nothing changes. -/
theorem install_again {rows : List Rw} {t : Int} {q : List Int} {s : List (List Int)} {l : List Ent} (hi : 0 < rows.length) (h0 : (installF rows t q s l).1 = 0) :
    installF (installF rows t q s l).2 t q s l = (0, (installF rows t q s l).2) ∧ t ≤ firstR (installF rows t q s l).2 + ((installF rows t q s l).2.length - 1 : Nat) := by
  rcases installF_cases rows t q s l hi with h1 | ⟨hr, hf, ht, h4, h5, h6⟩
  · have e : installF rows t q s l = (0, rows) := Prod.ext h0 h1
    rw [h1, e]
    refine ⟨rfl, ?_⟩
    unfold installF installG at e
    split at e
    · split at e
      · next j i hj hi' => obtain ⟨h7, h8⟩ := atR_some hi hj; omega
      · cases e
      · next i hn hi' =>
        simp only [Prod.mk.injEq, true_and] at e
        have := congrArg List.length e
        simp at this
      · cases e
    · cases e
  · have h7 : (installF rows t q s l).2 = newR rows t q s l := by rw [h6]; rfl
    have hn := newR_len rows t q s l
    have hff := newR_first rows t q s l hi
    have a1 : atR (newR rows t q s l) t = some rows.length := atR_in (by omega) (by omega)
    have a2 : atR (newR rows t q s l) (t - 1) = some (rows.length - 1) := atR_in (by omega) (by omega)
    have r1 : rowA (newR rows t q s l) rows.length = (t, q, s, [], false) := by rw [rowA_get _ _ (by omega), newR_get, if_pos rfl]
    have r2 : rowA (newR rows t q s l) (rows.length - 1) = ((rowA rows (rows.length - 1)).1, (rowA rows (rows.length - 1)).2.1, (rowA rows (rows.length - 1)).2.2.1, l, true) := by
      rw [rowA_get _ _ (by omega), newR_get, if_neg (by omega), if_pos rfl]
    have n1 : nsF (newR rows t q s l) (t - 1) = nsF rows (t - 1) := by unfold nsF; rw [a2, h5]; simp only [Option.map_some, r2]
    rw [h7]
    refine ⟨?_, by omega⟩
    unfold installF installG
    rw [n1, hr, hf, a1, a2]
    simp only [Bool.and_self, if_true, r1, r2]
    rw [show sameC t q s t q s = true by simp [sameC]]
    simp
end Go.Proofs.Ytbjpoamnglfjeaa

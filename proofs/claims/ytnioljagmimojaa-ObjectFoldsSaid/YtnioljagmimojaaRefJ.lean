/- Walks of the document's object: Fold. -/
import Derived.Test.YtnioljagmimojaaRefH
set_option linter.unusedVariables false
set_option linter.unusedSimpArgs false
namespace Go.Proofs.Ytnioljagmimojaa
open Go.RowKit Cb

def badL (l : List RCell) (r : Int × Int) : Bool := (getL l r.1).2.1 != r.2
def foldOne (xs : List ByteArray) (i : Nat) (d : ByteArray) (acc : List RCell × List Int) : List RCell × List Int :=
  if parseE d.data.toList = 0 ∧ cameL xs (parseO d.data.toList).1 = i then
    if (parseO d.data.toList).2.1.any (badL acc.1) then (acc.1, acc.2 ++ [1]) else ((parseO d.data.toList).2.2.foldl writtenL acc.1, acc.2 ++ [2])
  else (acc.1, acc.2 ++ [0])
def foldK (xs : List ByteArray) : Nat → List RCell × List Int
  | 0 => ([], [])
  | k + 1 => foldOne xs k (xs.getD k ⟨#[]⟩) (foldK xs k)
theorem foldK_out (xs : List ByteArray) : ∀ k, (foldK xs k).2.length = k
  | 0 => rfl
  | k + 1 => by
    unfold foldK foldOne
    have := foldK_out xs k
    split
    · split <;> simp [this]
    · simp [this]
def VB (B : Int) (l : List RCell) : Prop := ∀ x ∈ l, 0 ≤ x.2.1 ∧ x.2.1 ≤ B
theorem VB.get {B : Int} {l : List RCell} (h : VB B l) (hB : 0 ≤ B) (f : Int) : 0 ≤ (getL l f).2.1 ∧ (getL l f).2.1 ≤ B := by
  unfold getL
  cases hf : l.find? (fun x => decide (x.1 = f)) with
  | none => simp; exact hB
  | some x => exact h x (List.mem_of_find?_eq_some hf)
theorem foldW_mem (c : RCell) (l : List RCell) : ∀ acc : List RCell × Bool, ∀ x ∈ (l.foldl (stepW c) acc).1, x ∈ acc.1 ∨ x ∈ l ∨ x = c := by
  induction l with
  | nil => intro acc x hx; exact .inl hx
  | cons y r ih =>
    intro acc x hx
    rcases ih (stepW c acc y) x hx with h | h | h
    · unfold stepW at h
      dsimp only at h
      split at h <;> split at h <;> (try simp only [List.mem_append, List.mem_singleton] at h)
      all_goals simp only [List.mem_cons]
      all_goals grind
    · exact .inr (.inl (List.mem_cons_of_mem _ h))
    · exact .inr (.inr h)
theorem foldW_len (c : RCell) (l : List RCell) : ∀ acc : List RCell × Bool, (l.foldl (stepW c) acc).1.length ≤ acc.1.length + l.length + (if acc.2 then 0 else 1) ∧ ((l.foldl (stepW c) acc).2 = false → (l.foldl (stepW c) acc).1.length ≤ acc.1.length + l.length) := by
  induction l with
  | nil => intro acc; simp
  | cons y r ih =>
    intro acc
    obtain ⟨h1, h2⟩ := ih (stepW c acc y)
    simp only [List.foldl_cons, List.length_cons]
    obtain ⟨o, d⟩ := acc
    by_cases hc : d = false ∧ c.1 ≤ y.1
    · rw [stepW_yes (acc := (o, d)) hc] at h1 h2 ⊢
      obtain ⟨rfl, _⟩ := hc
      by_cases e : y.1 = c.1
      · simp only [if_pos e] at h1 h2 ⊢
        simp at h1 h2 ⊢
        exact ⟨by omega, fun h => by have := h2 h; omega⟩
      · simp only [if_neg e] at h1 h2 ⊢
        simp at h1 h2 ⊢
        refine ⟨by omega, fun h => ?_⟩
        exfalso
        have : ∀ (l : List RCell) (o : List RCell), (l.foldl (stepW c) (o, true)).2 = true := by
          intro l
          induction l with
          | nil => intro o; rfl
          | cons z r ih => intro o; rw [List.foldl_cons, stepW_no (by simp)]; split <;> exact ih _
        rw [this] at h; cases h
    · rw [stepW_no (acc := (o, d)) hc] at h1 h2 ⊢
      by_cases e : y.1 = c.1
      · simp only [if_pos e] at h1 h2 ⊢
        exact ⟨by omega, fun h => by have := h2 h; omega⟩
      · simp only [if_neg e] at h1 h2 ⊢
        simp at h1 h2 ⊢
        exact ⟨by omega, fun h => by have := h2 h; omega⟩
theorem written_len (l : List RCell) (x : Int × ByteArray) : (writtenL l x).length ≤ l.length + 1 := by
  obtain ⟨h1, h2⟩ := foldW_len (newC l x) l ([], false)
  unfold writtenL endW
  split
  · simpa using h1
  · rename_i h
    have := h2 (by simpa using h)
    simp at this ⊢; omega
theorem written_vb {B : Int} {l : List RCell} (h : VB B l) (hB : 0 ≤ B) (x : Int × ByteArray) : VB (B + 1) (writtenL l x) := by
  have hc : 0 ≤ (newC l x).2.1 ∧ (newC l x).2.1 ≤ B + 1 := by
    have := h.get hB x.1
    show 0 ≤ (getL l x.1).2.1 + 1 ∧ (getL l x.1).2.1 + 1 ≤ B + 1
    omega
  intro y hy
  have hm : y ∈ l ∨ y = newC l x := by
    unfold writtenL endW at hy
    split at hy
    · rcases foldW_mem _ _ _ y hy with h | h | h
      · simp at h
      · exact .inl h
      · exact .inr h
    · rcases List.mem_append.1 hy with hy | hy
      · rcases foldW_mem _ _ _ y hy with h | h | h
        · simp at h
        · exact .inl h
        · exact .inr h
      · simp at hy; exact .inr hy
  rcases hm with hm | hm
  · have := h y hm; omega
  · rw [hm]; exact hc
theorem writtens_ok {B : Int} {l : List RCell} (h : VB B l) (hB : 0 ≤ B) (ws : List (Int × ByteArray)) : VB (B + ws.length) (ws.foldl writtenL l) ∧ (ws.foldl writtenL l).length ≤ l.length + ws.length := by
  induction ws generalizing B l with
  | nil => exact ⟨by simpa using h, by simp⟩
  | cons x r ih =>
    obtain ⟨h1, h2⟩ := ih (written_vb h hB x) (by omega)
    have := written_len l x
    simp only [List.foldl_cons, List.length_cons]
    exact ⟨fun y hy => by have := h1 y hy; omega, by omega⟩
theorem foldK_ok (xs : List ByteArray) : ∀ k : Nat, VB (16 * (k : Int)) (foldK xs k).1 ∧ (foldK xs k).1.length ≤ 16 * k
  | 0 => ⟨fun x hx => by simp [foldK] at hx, by simp [foldK]⟩
  | k + 1 => by
    obtain ⟨h1, h2⟩ := foldK_ok xs k
    have hle : VB (16 * ((k + 1 : Nat) : Int)) (foldK xs k).1 := fun y hy => by have := h1 y hy; omega
    unfold foldK foldOne
    split
    · split
      · exact ⟨hle, by simp only; omega⟩
      · have hpl := parseO_len (xs.getD k ⟨#[]⟩).data.toList
        obtain ⟨h3, h4⟩ := writtens_ok h1 (by omega) (parseO (xs.getD k ⟨#[]⟩).data.toList).2.2
        exact ⟨fun y hy => by have := h3 y hy; omega, by simp only; omega⟩
    · exact ⟨hle, by simp only; omega⟩
end Go.Proofs.Ytnioljagmimojaa

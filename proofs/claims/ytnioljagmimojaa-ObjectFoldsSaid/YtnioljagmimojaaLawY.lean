/- The document's fold and the store, entry by entry: plain laws. -/
import Derived.Test.YtnioljagmimojaaLawX
set_option linter.unusedVariables false
set_option linter.unusedSimpArgs false
namespace Go.Proofs.Ytnioljagmimojaa
open Go.RowKit Cb

/-- What a text comes to behind a store: 0 it does not count, 1 it is not done, 2 it is done. -/
def oS (s : Store) (d : ByteArray) : Int := match parseR d.data.toList with
  | none => 0
  | some t => if (mget s.ids t.1).isSome then 0 else if t.2.1.any (staleB s) then 1 else 2
theorem oS_cases (s : Store) (d : ByteArray) :
    (oS s d = 0 ∧ addD s d = (s, false)) ∨
    (oS s d = 1 ∧ ∃ t, parseR d.data.toList = some t ∧ addD s d = (⟨s.cs, mset s.ids t.1 false, s.n⟩, true)) ∨
    (oS s d = 2 ∧ ∃ t, parseR d.data.toList = some t ∧ addD s d = (⟨writeS s.cs t.2.2, mset s.ids t.1 true, s.n + 1⟩, true)) := by
  unfold oS addD
  cases hp : parseR d.data.toList with
  | none => exact .inl ⟨rfl, rfl⟩
  | some t =>
    simp only
    unfold addS
    by_cases h1 : (mget s.ids t.1).isSome = true
    · rw [if_pos h1, if_pos h1]; exact .inl ⟨rfl, rfl⟩
    · rw [if_neg h1, if_neg h1]
      by_cases h2 : t.2.1.any (staleB s) = true
      · rw [if_pos h2, if_pos h2]; exact .inr (.inl ⟨rfl, t, rfl, rfl⟩)
      · rw [if_neg h2, if_neg h2]; exact .inr (.inr ⟨rfl, t, rfl, rfl⟩)
theorem fold_step {xs : List ByteArray} {k : Nat} (hk : k < xs.length) (h : RL (foldK xs k).1 (addAll s0 (xs.take k)).cs) :
    (foldK xs (k + 1)).2 = (foldK xs k).2 ++ [oS (addAll s0 (xs.take k)) xs[k]] ∧ RL (foldK xs (k + 1)).1 (addAll s0 (xs.take (k + 1))).cs := by
  have hd : xs.getD k ⟨#[]⟩ = xs[k] := by rw [List.getD_eq_getElem?_getD, List.getElem?_eq_getElem hk]; rfl
  rw [addAll_snoc s0 xs k hk]
  have hf : foldK xs (k + 1) = foldOne xs k xs[k] (foldK xs k) := by rw [← hd]; rfl
  have hce := fun id => cameL_eq hk (id := id)
  generalize xs[k] = d at *
  generalize addAll s0 (xs.take k) = s at *
  rw [hf]
  unfold foldOne addD oS
  cases hp : parseR d.data.toList with
  | none =>
    have he : parseE d.data.toList = 1 := by unfold parseE; rw [hp]; rfl
    rw [if_neg (by rw [he]; simp)]
    exact ⟨rfl, h⟩
  | some t =>
    have he : parseE d.data.toList = 0 := by unfold parseE; rw [hp]; rfl
    have ho : parseO d.data.toList = t := by unfold parseO; rw [hp]; rfl
    have hc := hce t.1 ((cameP_iff t.1 d).2 ⟨t, hp, rfl⟩)
    rw [ho]
    simp only
    unfold addS
    by_cases h1 : (mget s.ids t.1).isSome = true
    · rw [if_neg (fun hh => by have := hc.1 hh.2; rw [h1] at this; cases this), if_pos h1, if_pos h1]
      exact ⟨rfl, h⟩
    · rw [if_pos ⟨he, hc.2 (by simpa using h1)⟩, if_neg h1, if_neg h1]
      have hb : t.2.1.any (badL (foldK xs k).1) = t.2.1.any (staleB s) := by
        congr 1; funext r
        simp only [badL, staleB]
        rw [← h.ver]; rfl
      rw [hb]
      by_cases h2 : t.2.1.any (staleB s) = true
      · rw [if_pos h2, if_pos h2, if_pos h2]; exact ⟨rfl, h⟩
      · rw [if_neg h2, if_neg h2, if_neg h2]; exact ⟨rfl, h.puts _⟩
theorem fold_all {xs : List ByteArray} : ∀ k, k ≤ xs.length → RL (foldK xs k).1 (addAll s0 (xs.take k)).cs ∧ ∀ i (h : i < k) (h' : i < xs.length), (foldK xs k).2[i]? = some (oS (addAll s0 (xs.take i)) xs[i])
  | 0, _ => ⟨⟨by simp [foldK], fun f => rfl⟩, fun i h => by omega⟩
  | k + 1, hk => by
    obtain ⟨h1, h2⟩ := fold_all (xs := xs) k (by omega)
    obtain ⟨h3, h4⟩ := fold_step (xs := xs) (k := k) (by omega) h1
    refine ⟨h4, fun i hi hi' => ?_⟩
    rw [h3]
    by_cases e : i = k
    · subst e
      rw [List.getElem?_append_right (by rw [foldK_out]; omega), foldK_out]; simp
    · rw [List.getElem?_append_left (by rw [foldK_out]; omega)]
      exact h2 i (by omega) hi'
theorem ids_from {xs : List ByteArray} {i : Nat} (hi : i < xs.length) {t : Tx} (hp : parseR xs[i].data.toList = some t) (ho : oS (addAll s0 (xs.take i)) xs[i] ≠ 0) :
    mget (addAll s0 xs).ids t.1 = some (decide (oS (addAll s0 (xs.take i)) xs[i] = 2)) := by
  refine ids_final (k := i + 1) ?_
  rw [addAll_snoc s0 xs i hi]
  generalize xs[i] = d at *
  rcases oS_cases (addAll s0 (xs.take i)) d with ⟨h, _⟩ | ⟨h, t', hp', e⟩ | ⟨h, t', hp', e⟩
  · exact absurd h ho
  · rw [hp] at hp'; cases hp'
    rw [e, h]
    simp only [mget_mset, if_pos]; rfl
  · rw [hp] at hp'; cases hp'
    rw [e, h]
    simp only [mget_mset, if_pos]; rfl
theorem RL.cell {l : List RCell} {s : Store} (h : RL l s.cs) (j : Nat) (hj : j < l.length) : valS s l[j].1 = l[j].2.2 ∧ verS s l[j].1 = l[j].2.1 := by
  have hf : l.find? (fun x => decide (x.1 = l[j].1)) = some l[j] := by
    rw [List.find?_eq_some_iff_getElem]
    refine ⟨by simp, j, hj, rfl, fun i hi => ?_⟩
    have := List.pairwise_iff_getElem.1 h.sorted i j (by simp; omega) (by simpa using hj) hi
    simp only [List.getElem_map] at this
    simp; omega
  have hg : getL l l[j].1 = l[j] := by unfold getL; rw [hf]; rfl
  refine ⟨by rw [h.val, hg], ?_⟩
  have := h.ver l[j].1
  rw [hg] at this
  exact this
end Go.Proofs.Ytnioljagmimojaa

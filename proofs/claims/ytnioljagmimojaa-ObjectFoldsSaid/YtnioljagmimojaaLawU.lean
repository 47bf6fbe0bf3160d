/- The transactions that were done, one behind the other: plain laws. -/
import Derived.Test.YtnioljagmimojaaLawQ
set_option linter.unusedVariables false
set_option linter.unusedSimpArgs false
namespace Go.Proofs.Ytnioljagmimojaa
open Go.RowKit Cb

theorem ids_stay {s : Store} {d : ByteArray} {id : Int} {b : Bool} (h : mget s.ids id = some b) : mget (addD s d).1.ids id = some b := by
  unfold addD
  split
  · exact h
  · rename_i t _
    unfold addS
    split
    · exact h
    · rename_i hn
      have hne : id ≠ t.1 := fun e => hn (by rw [← e, h]; rfl)
      split
      · show mget (mset s.ids t.1 false) id = some b
        rw [mget_mset, if_neg hne]; exact h
      · show mget (mset s.ids t.1 true) id = some b
        rw [mget_mset, if_neg hne]; exact h
theorem ids_stay_all {xs : List ByteArray} : ∀ {s : Store} {id : Int} {b : Bool}, mget s.ids id = some b → mget (addAll s xs).ids id = some b := by
  induction xs with
  | nil => intro s id b h; exact h
  | cons x r ih => intro s id b h; exact ih (ids_stay h)
theorem addAll_split (s : Store) (xs : List ByteArray) (k : Nat) : addAll s xs = addAll (addAll s (xs.take k)) (xs.drop k) := by
  unfold addAll; rw [← List.foldl_append, List.take_append_drop]
theorem ids_final {xs : List ByteArray} {k : Nat} {id : Int} {b : Bool} (h : mget (addAll s0 (xs.take k)).ids id = some b) : mget (addAll s0 xs).ids id = some b := by
  rw [addAll_split s0 xs k]; exact ids_stay_all h
structure SI (xs : List ByteArray) (k : Nat) (t : Store) (met : List Int) : Prop where
  cs : t.cs = (addAll s0 (xs.take k)).cs
  n : t.n = (addAll s0 (xs.take k)).n
  ids : ∀ id, mget t.ids id = if mget (addAll s0 (xs.take k)).ids id = some true then some true else none
  mem : ∀ id, id ∈ met ↔ mget (addAll s0 (xs.take k)).ids id = some true
  len : met.length ≤ k
theorem SI.start (xs : List ByteArray) : SI xs 0 s0 [] := ⟨rfl, rfl, fun id => by simp [addAll, s0, mget], fun id => by simp [addAll, s0, mget], by simp⟩
theorem SI.bd {xs : List ByteArray} {k : Nat} {t : Store} {met : List Int} (h : SI xs k t met) (hk : k ≤ xs.length) : BdS (16 * k) t := by
  have := addAll_bd xs k hk
  exact ⟨fun f => by have h1 := this.1 f; simp only [verS] at h1 ⊢; rw [h.cs]; exact h1, by rw [h.n]; exact this.2.1, by rw [h.n]; exact this.2.2⟩
section
variable {xs : List ByteArray} {k : Nat} {t : Store} {met : List Int}
theorem SI.same (h : SI xs k t met) (hk : k < xs.length) (he : (addAll s0 (xs.take (k + 1))).cs = (addAll s0 (xs.take k)).cs) (hn : (addAll s0 (xs.take (k + 1))).n = (addAll s0 (xs.take k)).n)
    (hi : ∀ id, mget (addAll s0 (xs.take (k + 1))).ids id = some true ↔ mget (addAll s0 (xs.take k)).ids id = some true) : SI xs (k + 1) t met :=
  ⟨by rw [he]; exact h.cs, by rw [hn]; exact h.n, fun id => by rw [h.ids]; simp only [hi], fun id => by rw [h.mem, hi], by have := h.len; omega⟩
theorem SI.unread (h : SI xs k t met) (hk : k < xs.length) (hp : parseR xs[k].data.toList = none) : SI xs (k + 1) t met := by
  have e : addAll s0 (xs.take (k + 1)) = addAll s0 (xs.take k) := by rw [addAll_snoc s0 xs k hk]; unfold addD; rw [hp]
  exact h.same hk (by rw [e]) (by rw [e]) (fun id => by rw [e])
/-- What a transaction that is read came to. -/
theorem some_cases (hk : k < xs.length) {x : Tx} (hp : parseR xs[k].data.toList = some x) :
    ((mget (addAll s0 (xs.take k)).ids x.1).isSome = true ∧ addAll s0 (xs.take (k + 1)) = addAll s0 (xs.take k)) ∨
    ((mget (addAll s0 (xs.take k)).ids x.1).isSome = false ∧ x.2.1.any (staleB (addAll s0 (xs.take k))) = true ∧ addAll s0 (xs.take (k + 1)) = ⟨(addAll s0 (xs.take k)).cs, mset (addAll s0 (xs.take k)).ids x.1 false, (addAll s0 (xs.take k)).n⟩) ∨
    ((mget (addAll s0 (xs.take k)).ids x.1).isSome = false ∧ x.2.1.any (staleB (addAll s0 (xs.take k))) = false ∧ addAll s0 (xs.take (k + 1)) = ⟨writeS (addAll s0 (xs.take k)).cs x.2.2, mset (addAll s0 (xs.take k)).ids x.1 true, (addAll s0 (xs.take k)).n + 1⟩) := by
  have e : addAll s0 (xs.take (k + 1)) = (addS (addAll s0 (xs.take k)) x).1 := by rw [addAll_snoc s0 xs k hk]; unfold addD; rw [hp]
  generalize addAll s0 (xs.take k) = s at *
  rw [e]
  unfold addS
  by_cases h1 : (mget s.ids x.1).isSome = true
  · left; rw [if_pos h1]; exact ⟨h1, rfl⟩
  · rw [if_neg h1]
    have h1' : (mget s.ids x.1).isSome = false := by simpa using h1
    by_cases h2 : x.2.1.any (staleB s) = true
    · right; left; rw [if_pos h2]; exact ⟨h1', h2, rfl⟩
    · right; right; rw [if_neg h2]; exact ⟨h1', by simpa using h2, rfl⟩
theorem SI.no (h : SI xs k t met) (hk : k < xs.length) {x : Tx} (hp : parseR xs[k].data.toList = some x) (hf : mget (addAll s0 xs).ids x.1 = some false ∨ x.1 ∈ met) : SI xs (k + 1) t met := by
  rcases some_cases hk hp with ⟨_, e⟩ | ⟨hn, _, e⟩ | ⟨hn, _, e⟩
  · exact h.same hk (by rw [e]) (by rw [e]) (fun id => by rw [e])
  · refine h.same hk (by rw [e]) (by rw [e]) (fun id => ?_)
    rw [e]
    simp only [mget_mset]
    split
    · rename_i e2; subst e2
      constructor
      · intro h'; simp at h'
      · intro h'; rw [h'] at hn; simp at hn
    · exact Iff.rfl
  · exfalso
    have h1 : mget (addAll s0 (xs.take (k + 1))).ids x.1 = some true := by rw [e]; simp only [mget_mset, if_pos]
    rcases hf with hf | hf
    · rw [ids_final h1] at hf; simp at hf
    · rw [h.mem] at hf; rw [hf] at hn; simp at hn
theorem SI.yes (h : SI xs k t met) (hk : k < xs.length) {x : Tx} (hp : parseR xs[k].data.toList = some x) (hf : mget (addAll s0 xs).ids x.1 = some true) (hm : x.1 ∉ met) :
    SI xs (k + 1) (addD t xs[k]).1 (met ++ [x.1]) ∧ mget (addD t xs[k]).1.ids x.1 = some true := by
  have ed : addD t xs[k] = addS t x := by unfold addD; rw [hp]
  rcases some_cases hk hp with ⟨hs, e⟩ | ⟨hn, _, e⟩ | ⟨hn, hst, e⟩
  · exfalso
    obtain ⟨b, hb⟩ := Option.isSome_iff_exists.1 hs
    have := ids_final hb
    rw [hf] at this
    cases this
    exact hm ((h.mem _).2 hb)
  · exfalso
    have h1 : mget (addAll s0 (xs.take (k + 1))).ids x.1 = some false := by rw [e]; simp only [mget_mset, if_pos]
    rw [ids_final h1] at hf; simp at hf
  · have hnone : mget (addAll s0 (xs.take k)).ids x.1 = none := by simpa using hn
    have hcm : (mget t.ids x.1).isSome = false := by rw [h.ids, hnone]; rfl
    have hst' : x.2.1.any (staleB t) = false := by
      rw [← hst]
      congr 1
      funext r
      simp only [staleB, verS, h.cs]
    have ea : addS t x = (⟨writeS t.cs x.2.2, mset t.ids x.1 true, t.n + 1⟩, true) := by
      unfold addS; rw [if_neg (by rw [hcm]; simp), if_neg (by rw [hst']; simp)]
    rw [ed, ea]
    refine ⟨⟨by rw [e, h.cs], by rw [e, h.n], fun id => ?_, fun id => ?_, by have := h.len; simp; omega⟩, by simp only [mget_mset, if_pos]⟩
    · rw [e]
      simp only [mget_mset]
      by_cases e2 : id = x.1
      · simp [e2]
      · rw [if_neg e2, if_neg e2]; exact h.ids id
    · rw [e]
      simp only [mget_mset, List.mem_append, List.mem_singleton]
      by_cases e2 : id = x.1
      · simp [e2]
      · rw [if_neg e2, h.mem]; simp [e2]
end
theorem outcome_some {xs : List ByteArray} {k : Nat} (hk : k < xs.length) {x : Tx} (hp : parseR xs[k].data.toList = some x) : ∃ b, mget (addAll s0 xs).ids x.1 = some b :=
  Option.isSome_iff_exists.1 (came_in (List.getElem_mem hk) hp)
end Go.Proofs.Ytnioljagmimojaa

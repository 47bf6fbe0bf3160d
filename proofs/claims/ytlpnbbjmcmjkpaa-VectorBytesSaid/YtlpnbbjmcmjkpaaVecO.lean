/- Quorums in plain words. -/
import Derived.Test.YtlpnbbjmcmjkpaaVecX
set_option linter.unusedVariables false
set_option linter.unusedSimpArgs false
namespace Go.Proofs.Ytlpnbbjmcmjkpaa
open Go.RowKit Cb

theorem sort_pair (xs : List Int) : (sortI xs).Pairwise (fun x y => x ≤ y) := by
  have tr : ∀ a b c : Int, decide (a ≤ b) = true → decide (b ≤ c) = true → decide (a ≤ c) = true := fun a b c h1 h2 => by simp only [decide_eq_true_eq] at *; omega
  have to : ∀ a b : Int, (decide (a ≤ b) || decide (b ≤ a)) = true := fun a b => by simp; omega
  have := List.pairwise_mergeSort (le := fun a b => decide (a ≤ b)) tr to xs
  exact this.imp (fun h => by simpa using h)
theorem sort_mono (xs : List Int) {i j : Nat} (hij : i ≤ j) (hj : j < xs.length) : (sortI xs).getD i 0 ≤ (sortI xs).getD j 0 := by
  have hl := sortI_len xs
  rw [List.getD_eq_getElem?_getD, List.getD_eq_getElem?_getD, List.getElem?_eq_getElem (by omega), List.getElem?_eq_getElem (by omega)]
  simp only [Option.getD_some]
  rcases Nat.lt_or_ge i j with h | h
  · exact List.pairwise_iff_getElem.1 (sort_pair xs) i j (by omega) (by omega) h
  · obtain rfl : i = j := by omega
    exact Int.le_refl _
theorem sort_mem (xs : List Int) {x : Int} : x ∈ sortI xs ↔ x ∈ xs := (List.mergeSort_perm xs _).mem_iff
theorem sort_idx (xs : List Int) {x : Int} (h : x ∈ xs) : ∃ i, i < xs.length ∧ (sortI xs).getD i 0 = x := by
  obtain ⟨i, hi, e⟩ := List.mem_iff_getElem.1 ((sort_mem xs).2 h)
  rw [sortI_len] at hi
  refine ⟨i, hi, ?_⟩
  rw [List.getD_eq_getElem?_getD, List.getElem?_eq_getElem (by rw [sortI_len]; exact hi)]
  simpa using e
theorem sort_at (xs : List Int) {i : Nat} (hi : i < xs.length) : (sortI xs).getD i 0 ∈ xs := by
  rw [← sort_mem xs, List.getD_eq_getElem?_getD, List.getElem?_eq_getElem (by rw [sortI_len]; exact hi)]
  exact List.getElem_mem _
def quorL (l : List (List Int)) (need : Nat) : List Int := (List.range (headL l).length).map fun k => (sortI (column l k)).getD (l.length - need) 0
theorem quor_yes {l : List (List Int)} (h0 : 0 < l.length) (hb : quorBad l = false) {need : Int} (h : 1 ≤ need ∧ need ≤ l.length) : quorumF l need = some (quorL l need.toNat) := by
  unfold quorumF; rw [if_pos ⟨h0, h, hb⟩]; rfl
theorem quor_no {l : List (List Int)} {need : Int} (h : ¬ (0 < l.length ∧ (1 ≤ need ∧ need ≤ l.length) ∧ quorBad l = false)) : quorumF l need = none := by unfold quorumF; rw [if_neg h]
theorem quor_kind {l : List (List Int)} (hb : quorBad l = false) {v : List Int} (hv : v ∈ l) : kindB v (headL l) = true := by
  have := List.any_eq_false.1 hb v hv
  simpa using this
theorem quor_len (l : List (List Int)) (need : Nat) : (quorL l need).length = (headL l).length := by simp [quorL]
theorem quor_at (l : List (List Int)) (need k : Nat) (hk : k < (quorL l need).length) : (quorL l need)[k] = (sortI (column l k)).getD (l.length - need) 0 := by
  simp [quorL]
theorem col_mem {l : List (List Int)} {v : List Int} (hv : v ∈ l) (k : Nat) : v.getD k 0 ∈ column l k := List.mem_map.2 ⟨v, hv, rfl⟩
theorem head_mem {l : List (List Int)} (h0 : 0 < l.length) : headL l ∈ l := by rw [headL_get h0]; exact List.getElem_mem h0
theorem quor_right {l : List (List Int)} (h0 : 0 < l.length) (hb : quorBad l = false) (need : Nat) (h : 1 ≤ need) : vright (quorL l need) = true := by
  have hh := (kind_iff.1 (quor_kind hb (head_mem h0))).1
  obtain ⟨a1, a2, a3⟩ := vright_iff.1 hh
  refine vright_iff.2 ⟨by rw [quor_len]; omega, by rw [quor_len]; omega, fun n hn => ?_⟩
  obtain ⟨k, hk, rfl⟩ := List.mem_iff_getElem.1 hn
  rw [quor_at]
  rw [quor_len] at hk
  have hc : (column l k).length = l.length := by simp [column]
  have hm := sort_at (column l k) (i := l.length - need) (by rw [hc]; omega)
  obtain ⟨v, hv, e⟩ := List.mem_map.1 hm
  rw [← e]
  obtain ⟨r1, _, r3⟩ := kind_iff.1 (quor_kind hb hv)
  rw [List.getD_eq_getElem?_getD, List.getElem?_eq_getElem (by omega)]
  exact right_at r1 k (by omega)
theorem quor_one {l : List (List Int)} (h0 : 0 < l.length) (hb : quorBad l = false) {v : List Int} (hv : v ∈ l) : coversB (quorL l 1) v = true := by
  obtain ⟨r1, r2, r3⟩ := kind_iff.1 (quor_kind hb hv)
  refine covers_at.2 ⟨kind_mk (quor_right h0 hb 1 (by omega)) r1 (by rw [quor_len]; omega), fun k hk hk' => ?_⟩
  rw [quor_at]
  obtain ⟨i, hi, e⟩ := sort_idx (column l k) (col_mem hv k)
  have hc : (column l k).length = l.length := by simp [column]
  have := sort_mono (column l k) (i := i) (j := l.length - 1) (by omega) (by omega)
  rw [e, List.getD_eq_getElem?_getD, List.getElem?_eq_getElem hk'] at this
  exact this
theorem quor_all {l : List (List Int)} (h0 : 0 < l.length) (hb : quorBad l = false) {v : List Int} (hv : v ∈ l) : coversB v (quorL l l.length) = true := by
  obtain ⟨r1, r2, r3⟩ := kind_iff.1 (quor_kind hb hv)
  refine covers_at.2 ⟨kind_mk r1 (quor_right h0 hb l.length (by omega)) (by rw [quor_len]; omega), fun k hk hk' => ?_⟩
  rw [quor_at]
  obtain ⟨i, hi, e⟩ := sort_idx (column l k) (col_mem hv k)
  have := sort_mono (column l k) (i := 0) (j := i) (by omega) hi
  rw [e, List.getD_eq_getElem?_getD (l := v), List.getElem?_eq_getElem hk] at this
  rw [Nat.sub_self]
  exact this
theorem quor_less {l : List (List Int)} (h0 : 0 < l.length) (hb : quorBad l = false) (m : Nat) (h : 1 ≤ m) (hm : m + 1 ≤ l.length) : coversB (quorL l m) (quorL l (m + 1)) = true := by
  refine covers_at.2 ⟨kind_mk (quor_right h0 hb m h) (quor_right h0 hb (m + 1) (by omega)) (by rw [quor_len, quor_len]), fun k hk hk' => ?_⟩
  rw [quor_at, quor_at]
  exact sort_mono (column l k) (by omega) (by simp [column]; omega)
end Go.Proofs.Ytlpnbbjmcmjkpaa

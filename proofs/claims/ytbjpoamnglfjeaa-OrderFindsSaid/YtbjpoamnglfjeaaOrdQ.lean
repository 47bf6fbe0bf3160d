/- The document's row of records, in plain words, and that it is the order's. It speaks of no program. -/
import Derived.Test.YtbjpoamnglfjeaaOrdP
set_option linter.unusedVariables false
set_option linter.unusedSimpArgs false
namespace Cb
/-- The records of one shard that a cut brings. -/
def span (s : Nat) (a b : Int) : List (Int × Int) := (List.range (b - a).toNat).map fun (i : Nat) => ((s : Int), a + (i : Int))
/-- Of the first so many shards. -/
def spans (last cut : List Int) (n : Nat) : List (Int × Int) := (List.range n).flatMap fun s => span s (last.getD s 0) (cut.getD s 0)
def rstep (x : List Int × List (Int × Int)) (e : Ent) : List Int × List (Int × Int) := if e.2.1 = 1 then (e.2.2.1, x.2 ++ spans x.1 e.2.2.1 x.1.length) else x
def rst (sh : Nat) (l : List Ent) (i : Nat) : List Int × List (Int × Int) := (l.take i).foldl rstep (List.replicate sh 0, [])
theorem rst_succ (sh : Nat) (l : List Ent) (i : Nat) (h : i < l.length) : rst sh l (i + 1) = rstep (rst sh l i) l[i] := by
  unfold rst; rw [List.take_succ_eq_append_getElem h, List.foldl_append]; rfl
theorem spans_succ (last cut : List Int) (n : Nat) : spans last cut (n + 1) = spans last cut n ++ span n (last.getD n 0) (cut.getD n 0) := by
  simp [spans, List.range_succ]
theorem span_part (s : Nat) (a : Int) (m : Nat) : span s a (a + m) = (List.range m).map fun (i : Nat) => ((s : Int), a + (i : Int)) := by
  simp only [span]; congr 2; omega
theorem span_snoc (s : Nat) (a : Int) (m : Nat) : span s a (a + ((m + 1 : Nat) : Int)) = span s a (a + m) ++ [((s : Int), a + m)] := by
  rw [span_part, span_part, List.range_succ, List.map_append]; rfl
theorem brings_spans (p : Int) (last cut : List Int) (h : Geq cut last) : ∀ (s : Nat), (bringsF p s last cut).flatMap expand = (List.range last.length).flatMap fun j => span (s + j) (last.getD j 0) (cut.getD j 0) := by
  induction h generalizing p with
  | nil => intro s; simp [bringsF]
  | @cons x y a b hxy _ ih =>
    intro s
    have ih := ih (p + (x - y)) (s + 1)
    simp only [bringsF, List.flatMap_append]
    have e : ((s : Int) + 1) = ((s + 1 : Nat) : Int) := by omega
    rw [e, ih, List.length_cons, List.range_succ_eq_map, List.flatMap_cons, List.flatMap_map]
    congr 1
    · by_cases h0 : 0 < x - y
      · rw [if_pos h0]; simp [expand, span]
      · rw [if_neg h0]
        have : (x - y).toNat = 0 := by omega
        simp [span, this]
    · congr 1
      funext j
      simp [show s + 1 + j = s + (j + 1) by omega]
theorem add_rstep {sh : Nat} {o : OSt} (hI : Inv sh o) {e : Ent} (h : (addF o e).2 = 0) : ((addF o e).1.last, rowF (addF o e).1) = rstep (o.last, rowF o) e := by
  revert h
  unfold addF rstep
  split
  case isFalse => simp
  case isTrue =>
    split
    case isFalse => simp [rowF]
    case isTrue =>
      split
      case isFalse => simp
      case isTrue hc =>
        obtain ⟨_, _, hg⟩ := covers_iff.1 hc
        split
        case isTrue => simp
        case isFalse =>
          intro _
          simp only [rowF, List.flatMap_append, Prod.mk.injEq, true_and]
          have := brings_spans o.len o.last e.2.2.1 hg 0
          simp only [Nat.zero_add] at this
          rw [show ((0 : Nat) : Int) = 0 from rfl] at this
          rw [this]; rfl
theorem of_rst {sh : Nat} {o : OSt} (hI : Inv sh o) (l : List Ent) (h : (ofF o l).2 = l.length) : ((ofF o l).1.last, rowF (ofF o l).1) = l.foldl rstep (o.last, rowF o) := by
  induction l generalizing o with
  | nil => rfl
  | cons e r ih =>
    simp only [ofF] at h ⊢
    split at h
    case isFalse => simp at h
    case isTrue hc =>
      rw [if_pos hc]
      rw [ih (inv_add hI e) (by simpa using h), List.foldl_cons, ← add_rstep hI hc]
/-- What was accepted, by itself. -/
theorem of_take (o : OSt) (l : List Ent) : ofF o (l.take (ofF o l).2) = ((ofF o l).1, (ofF o l).2) ∧ ∀ i, i ≤ (ofF o l).2 → (ofF o (l.take i)).2 = i := by
  induction l generalizing o with
  | nil => simp [ofF]
  | cons e r ih =>
    obtain ⟨h1, h2⟩ := ih (addF o e).1
    simp only [ofF]
    split
    case isFalse => exact ⟨by simp [ofF], fun i hi => by obtain rfl : i = 0 := by omega
                                                         simp [ofF]⟩
    case isTrue hc =>
      refine ⟨by simp only [List.take_succ_cons, ofF]; rw [if_pos hc, h1], fun i hi => ?_⟩
      cases i with
      | zero => simp [ofF]
      | succ i =>
        simp only [List.take_succ_cons, ofF]
        rw [if_pos hc]
        simp only [Nat.add_right_cancel_iff]
        exact h2 i (by simpa using hi)
/-- The document's row of what was accepted. -/
structure RRow (sh : Nat) (l : List Ent) (R : List (Int × Int)) : Prop where
  fin : (rst sh l l.length).2 = R
  len : R.length ≤ 1000000
  last : ∀ i, i ≤ l.length → (rst sh l i).1.length = sh ∧ ∀ x ∈ (rst sh l i).1, 0 ≤ x ∧ x ≤ 1099511627776
  cut : ∀ i (h : i < l.length), l[i].2.1 = 1 → l[i].2.2.1.length = sh ∧ ∀ x ∈ l[i].2.2.1, 0 ≤ x ∧ x ≤ 1099511627776
  pre : ∀ i, i ≤ l.length → (rst sh l i).2 <+: R
theorem take_all {o : OSt} {l : List Ent} (h : (ofF o l).2 = l.length) (i : Nat) (hi : i ≤ l.length) : (ofF o (l.take i)).2 = (l.take i).length := by
  have := (of_take o l).2 i (by omega)
  rw [this, List.length_take]; omega
theorem rrow_of {n : Nat} (h1 : 1 ≤ n) (h8 : n ≤ 8) (l : List Ent) (h : (ofF (newF n) l).2 = l.length) : RRow n l (rowF (ofF (newF n) l).1) := by
  have hI0 := inv_new n h1 h8
  have hst : ∀ i, i ≤ l.length → rst n l i = ((ofF (newF n) (l.take i)).1.last, rowF (ofF (newF n) (l.take i)).1) := fun i hi => by
    rw [of_rst hI0 (l.take i) (take_all h i hi)]
    simp [rst, newF, rowF]
  have hinv := fun i => inv_of hI0 (l.take i)
  refine ⟨?_, ?_, fun i hi => ?_, fun i hi hk => ?_, fun i hi => ?_⟩
  · rw [hst _ (Nat.le_refl _), List.take_length]
  · have hI := inv_of hI0 l
    have := hI.rowLen
    have := hI.tot
    rw [hI.olen] at *
    omega
  · rw [hst i hi]
    exact ⟨(hinv i).len, (vright_iff.1 (hinv i).right).2.2⟩
  · have h3 := hst (i + 1) (by omega)
    have h4 := rst_succ n l i hi
    rw [rstep, if_pos hk] at h4
    rw [h4] at h3
    have h5 := congrArg Prod.fst h3
    simp only at h5
    rw [h5]
    exact ⟨(hinv (i + 1)).len, (vright_iff.1 (hinv (i + 1)).right).2.2⟩
  · rw [hst i hi]
    have : (ofF (newF n) (l.take i)).1.runs <+: (ofF (newF n) l).1.runs := by
      have h3 := of_append (r := l.drop i) (take_all h i hi)
      rw [List.take_append_drop] at h3
      rw [h3]
      exact (of_ext _ _).1
    obtain ⟨t, ht⟩ := this
    simp only [rowF, ← ht, List.flatMap_append]
    exact List.prefix_append _ _
theorem spans_pre (last cut : List Int) {m n : Nat} (h : m ≤ n) : spans last cut m <+: spans last cut n := by
  induction n with
  | zero => obtain rfl : m = 0 := by omega
            exact List.prefix_refl _
  | succ n ih =>
    rcases Nat.lt_or_ge m (n + 1) with h' | h'
    · rw [spans_succ]
      exact (ih (by omega)).trans (List.prefix_append _ _)
    · obtain rfl : m = n + 1 := by omega
      exact List.prefix_refl _
/-- What stands in the row in the midst of an entry is no longer than all. -/
theorem RRow.part {sh : Nat} {l : List Ent} {R : List (Int × Int)} (h : RRow sh l R) {i : Nat} (hi : i < l.length) (hk : l[i].2.1 = 1) {s : Nat} (hs : s < sh) {m : Nat} (hm : (rst sh l i).1.getD s 0 + m ≤ l[i].2.2.1.getD s 0) :
    ((rst sh l i).2 ++ spans (rst sh l i).1 l[i].2.2.1 s ++ span s ((rst sh l i).1.getD s 0) ((rst sh l i).1.getD s 0 + m)).length ≤ 1000000 := by
  have h1 := (h.pre (i + 1) (by omega)).length_le
  have h2 := h.len
  rw [rst_succ sh l i hi, rstep, if_pos hk] at h1
  have h3 := (h.last i (by omega)).1
  have h4 := (spans_pre (rst sh l i).1 l[i].2.2.1 (show s + 1 ≤ (rst sh l i).1.length by omega)).length_le
  rw [spans_succ] at h4
  have hl : ∀ (s : Nat) (a b : Int), (span s a b).length = (b - a).toNat := fun s a b => by simp [span]
  simp only [List.length_append, hl] at h1 h4 ⊢
  omega
theorem steps_ge {a b : List Int} {r : List (Int × Int)} (h : Steps a r b) : ∀ p ∈ r, ∀ s : Nat, p.1 = s → (h' : s < a.length) → a[s] ≤ p.2 := by
  induction h with
  | nil => intro p hp; cases hp
  | @cons a b r t ht _ ih =>
    intro p hp s he hs
    rcases List.mem_cons.1 hp with rfl | hp
    · obtain rfl : t = s := by
        have he' : (t : Int) = (s : Int) := he
        omega
      exact Int.le_refl _
    · have := ih p hp s he (by simpa using hs)
      rw [List.getElem_set] at this
      split at this
      · rename_i e; subst e; omega
      · exact this
theorem steps_ne {a b : List Int} {r : List (Int × Int)} (h : Steps a r b) : ∀ (j k : Nat) (hj : j < k) (hk : k < r.length), r[j]'(by omega) ≠ r[k] := by
  induction h with
  | nil => intro j k _ hk; simp at hk
  | @cons a b r t ht hr ih =>
    intro j k hj hk e
    obtain ⟨k, rfl⟩ : ∃ m, k = m + 1 := ⟨k - 1, by omega⟩
    cases j with
    | zero =>
      simp only [List.getElem_cons_zero, List.getElem_cons_succ] at e
      have := steps_ge hr _ (List.getElem_mem (show k < r.length by simpa using hk)) t (by rw [← e]) (by simpa using ht)
      rw [← e] at this
      simp at this
      omega
    | succ j => exact ih j k (by omega) (by simpa using hk) (by simpa using e)
/-- Each record is found where it stands. -/
theorem find_at {sh : Nat} {o : OSt} (hI : Inv sh o) (k : Nat) (hk : k < (rowF o).length) : findF o.runs (rowF o)[k] = some (k : Int) := by
  rw [find_idx hI.contig]
  have : (List.flatMap expand o.runs).findIdx? (· == (rowF o)[k]) = some k := by
    refine List.findIdx?_eq_some_iff_getElem.2 ⟨hk, beq_iff_eq.2 rfl, fun j hj => ?_⟩
    have := steps_ne hI.steps j k hj hk
    exact fun e => this (beq_iff_eq.1 e)
  rw [this]; simp
end Cb

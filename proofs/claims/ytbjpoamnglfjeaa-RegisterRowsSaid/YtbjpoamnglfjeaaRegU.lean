/- Package register: Install as a whole; what installs keep (no program in sight). -/
import Derived.Test.YtbjpoamnglfjeaaRegS
set_option linter.unusedVariables false
set_option linter.unusedSimpArgs false
namespace Go.Proofs.Ytbjpoamnglfjeaa
open Go.RowKit Cb

def CfgI (q : List Int) (s : List (List Int)) : Prop := q.length * 8 ≤ 140737488351232 ∧ s.length * 24 ≤ 140737488351232 ∧ ∀ x ∈ s, x.length * 8 ≤ 140737488351232
theorem installF_wrong {rows : List Rw} {t : Int} {q : List Int} {s : List (List Int)} {l : List Ent} (h : rightC t q s = false) : installF rows t q s l = (1, rows) := by
  rw [installF, h, Bool.false_and]; rfl
theorem install_any (B p : Nat) (rows : List Rw) (t : Int) (vq vs vt : Value) (q : List Int) (s : List (List Int)) (l : List Ent) (w : World) (hreg : RegS w B p rows) (hi : RowsI rows)
    (hq : Sl (Ge B) w vq q) (hs : Sl (Ge B) w vs s) (ht : Sl No w vt l) (hc : CfgI q s) (hl : TailI l) :
    Calls Try.prog 33 #[.pointer (some ⟨p, 0, none⟩), cfgV t vq vs, vt] w fun e w' => e = .returned (.int .i64 (installF rows t q s l).1) ∧ Inst w w' p ∧ RegS w' B p (installF rows t q s l).2 := by
  rcases hr : rightC t q s with _ | _
  · rw [installF_wrong hr]
    refine (install_wrong p t vq vs vt q s w hq.no hs.no hc.1 (by have := hc.2.1; omega) hc.2.2 hr).mono ?_
    rintro e w' ⟨rfl, h⟩
    exact ⟨rfl, Inst.no hreg h, hreg.keepNo h⟩
  · exact install_right B p rows t vq vs vt q s l w hreg hi hq hs ht hl hr
theorem installF_cases (rows : List Rw) (t : Int) (q : List Int) (s : List (List Int)) (l : List Ent) (hi : 0 < rows.length) :
    ((installF rows t q s l).2 = rows) ∨
    (rightC t q s = true ∧ fitsB (nsF rows (t - 1)) l = true ∧ t = firstR rows + rows.length ∧ atR rows t = none ∧ atR rows (t - 1) = some (rows.length - 1) ∧
      installF rows t q s l = (0, rows.set (rows.length - 1) ((rowA rows (rows.length - 1)).1, (rowA rows (rows.length - 1)).2.1, (rowA rows (rows.length - 1)).2.2.1, l, true) ++ [(t, q, s, [], false)])) := by
  unfold installF installG
  rcases h1 : rightC t q s with _ | _
  · exact .inl rfl
  rcases h2 : fitsB (nsF rows (t - 1)) l with _ | _
  · exact .inl rfl
  simp only [Bool.and_self, if_true]
  rcases h3 : atR rows t with _ | j <;> rcases h4 : atR rows (t - 1) with _ | i
  · exact .inl rfl
  · right
    obtain ⟨h5, h6⟩ := atR_some hi h4
    have h7 := atR_none h3
    have : i = rows.length - 1 := by omega
    subst this
    exact ⟨trivial, trivial, by omega, rfl, rfl, rfl⟩
  · exact .inl rfl
  · exact .inl rfl
def newR (rows : List Rw) (t : Int) (q : List Int) (s : List (List Int)) (l : List Ent) : List Rw :=
  rows.set (rows.length - 1) ((rowA rows (rows.length - 1)).1, (rowA rows (rows.length - 1)).2.1, (rowA rows (rows.length - 1)).2.2.1, l, true) ++ [(t, q, s, [], false)]
theorem newR_len (rows : List Rw) (t : Int) (q : List Int) (s : List (List Int)) (l : List Ent) : (newR rows t q s l).length = rows.length + 1 := by simp [newR]
/-- What stands in a new row. -/
theorem newR_get (rows : List Rw) (t : Int) (q : List Int) (s : List (List Int)) (l : List Ent) (i : Nat) (h : i < (newR rows t q s l).length) :
    (newR rows t q s l)[i] = if i = rows.length then (t, q, s, [], false) else if i = rows.length - 1 then ((rowA rows i).1, (rowA rows i).2.1, (rowA rows i).2.2.1, l, true) else rowA rows i := by
  have hn := newR_len rows t q s l
  have key : ∀ (r : List Rw) (hr : r = newR rows t q s l) (h : i < r.length), r[i] = if i = rows.length then (t, q, s, [], false) else if i = rows.length - 1 then ((rowA rows i).1, (rowA rows i).2.1, (rowA rows i).2.2.1, l, true) else rowA rows i := by
    intro r hr h
    unfold newR at hr
    subst hr
    exact step i (by simpa using h) h
  exact key _ rfl h
where
  step (i : Nat) (h : i < rows.length + 1) (h' : i < (rows.set (rows.length - 1) ((rowA rows (rows.length - 1)).1, (rowA rows (rows.length - 1)).2.1, (rowA rows (rows.length - 1)).2.2.1, l, true) ++ [(t, q, s, [], false)]).length) :
      (rows.set (rows.length - 1) ((rowA rows (rows.length - 1)).1, (rowA rows (rows.length - 1)).2.1, (rowA rows (rows.length - 1)).2.2.1, l, true) ++ [(t, q, s, [], false)])[i] = if i = rows.length then (t, q, s, [], false) else if i = rows.length - 1 then ((rowA rows i).1, (rowA rows i).2.1, (rowA rows i).2.2.1, l, true) else rowA rows i := by
    rw [List.getElem_append]
    by_cases h1 : i = rows.length
    · simp [h1]
    · have hlt : i < rows.length := by omega
      rw [if_neg h1, dif_pos (by simpa using hlt), List.getElem_set]
      by_cases h2 : rows.length - 1 = i
      · rw [if_pos h2, if_pos h2.symm, h2]
      · rw [if_neg h2, if_neg (fun h => h2 h.symm), rowA_get rows i hlt]
theorem newR_first (rows : List Rw) (t : Int) (q : List Int) (s : List (List Int)) (l : List Ent) (hi : 0 < rows.length) : firstR (newR rows t q s l) = firstR rows := by
  have hn := newR_len rows t q s l
  have e : ∀ r : List Rw, (h : 0 < r.length) → firstR r = r[0].1 := fun r h => by cases r with
    | nil => simp at h
    | cons a b => rfl
  rw [e _ (by omega), e _ hi, newR_get]
  rw [if_neg (by omega), rowA_get rows 0 hi]
  split <;> rfl
theorem newR_rows {rows : List Rw} {t : Int} {q : List Int} {s : List (List Int)} {l : List Ent} (hi : RowsI rows) (hl : TailB l) (ht : t = firstR rows + rows.length) (hr : rightC t q s = true) : RowsI (newR rows t q s l) := by
  have hn := newR_len rows t q s l
  have hf := newR_first rows t q s l hi.1
  have hb := (rightC_iff.1 hr).1
  have hb0 := first_bound hi
  refine ⟨by omega, by omega, fun i h => ?_⟩
  have hff : ((newR rows t q s l).headD (0, [], [], [], false)).1 = firstR rows := hf
  rw [hff, newR_get]
  by_cases h1 : i = rows.length
  · rw [if_pos h1, h1]
    exact ⟨ht, hr, by simp [TailB]⟩
  · have hlt : i < rows.length := by omega
    have hx := hi.2.2 i hlt
    rw [if_neg h1, rowA_get rows i hlt]
    split
    · exact ⟨hx.1, hx.2.1, hl⟩
    · exact hx
theorem install_rows {rows : List Rw} {t : Int} {q : List Int} {s : List (List Int)} {l : List Ent} (hi : RowsI rows) (hl : TailI l) : RowsI (installF rows t q s l).2 ∧ firstR (installF rows t q s l).2 = firstR rows := by
  rcases installF_cases rows t q s l hi.1 with h | ⟨h1, h2, h3, h4, h5, h6⟩
  · rw [h]; exact ⟨hi, rfl⟩
  · rw [h6]
    exact ⟨newR_rows hi (fits_tail h2 hl) h3 h1, newR_first rows t q s l hi.1⟩
/-- Every row but the last is over. -/
def OverI (rows : List Rw) : Prop := ∀ i (h : i < rows.length), rows[i].2.2.2.2 = decide (i + 1 < rows.length)
theorem newR_over {rows : List Rw} {t : Int} {q : List Int} {s : List (List Int)} {l : List Ent} (ho : OverI rows) : OverI (newR rows t q s l) := by
  have hn := newR_len rows t q s l
  intro i h
  rw [newR_get]
  by_cases h1 : i = rows.length
  · rw [if_pos h1]
    exact (decide_eq_false (by omega)).symm
  · rw [if_neg h1]
    have hlt : i < rows.length := by omega
    have e : decide (i + 1 < (newR rows t q s l).length) = true := decide_eq_true (by omega)
    split
    · exact e.symm
    · rw [e, rowA_get rows i hlt, ho i hlt]
      exact decide_eq_true (by omega)
/-- What a register always is. -/
def RegI (rows : List Rw) : Prop := RowsI rows ∧ OverI rows
theorem install_reg {rows : List Rw} (t : Int) (q : List Int) (s : List (List Int)) {l : List Ent} (hi : RegI rows) (hl : TailI l) : RegI (installF rows t q s l).2 ∧ firstR (installF rows t q s l).2 = firstR rows := by
  rcases installF_cases rows t q s l hi.1.1 with h | ⟨h1, h2, h3, h4, h5, h6⟩
  · rw [h]; exact ⟨hi, rfl⟩
  · rw [h6]
    exact ⟨⟨newR_rows hi.1 (fits_tail h2 hl) h3 h1, newR_over hi.2⟩, newR_first rows t q s l hi.1.1⟩
theorem new_reg {t : Int} {q : List Int} {s : List (List Int)} (hr : rightC t q s = true) : RegI [(t, q, s, [], false)] :=
  ⟨⟨by simp, by simp, fun i h => by
    match i, h with
    | 0, _ => exact ⟨by simp, hr, by simp [TailB]⟩⟩, fun i h => by
    match i, h with
    | 0, _ => simp⟩
end Go.Proofs.Ytbjpoamnglfjeaa

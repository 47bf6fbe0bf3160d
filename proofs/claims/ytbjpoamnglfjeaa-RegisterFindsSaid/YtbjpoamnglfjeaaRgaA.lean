/- Plain laws of the register's rows: where records stand. -/
import Derived.Test.YtbjpoamnglfjeaaRegY
set_option linter.unusedVariables false
set_option linter.unusedSimpArgs false
namespace Go.Proofs.Ytbjpoamnglfjeaa
open Go.RowKit Cb

theorem many_bound (r : Rw) : 0 ≤ manyR r ∧ manyR r ≤ 8796093022208 := by
  unfold manyR total
  split
  · exact vright_sum ‹_›
  · omega
theorem start_bound (rows : List Rw) (h64 : rows.length ≤ 64) : ∀ k, k ≤ rows.length → 0 ≤ startF rows k ∧ startF rows k ≤ k * 8796093022208 := by
  intro k
  induction k with
  | zero => intro _; simp [startF]
  | succ k ih =>
    intro hk
    obtain ⟨h1, h2⟩ := ih (by omega)
    have hb := many_bound (rows[k])
    rw [start_succ rows k (by omega), IntWalk.wrap64_in _ (by omega)]
    omega
theorem start_next (rows : List Rw) (h64 : rows.length ≤ 64) (k : Nat) (hk : k < rows.length) : startF rows (k + 1) = startF rows k + manyR rows[k] := by
  obtain ⟨h1, h2⟩ := start_bound rows h64 k (by omega)
  have hb := many_bound (rows[k])
  rw [start_succ rows k hk, IntWalk.wrap64_in _ (by omega)]
/-- A register finds any place. -/
theorem find_some {rows : List Rw} (ho : OverI rows) : ∀ j k, k + j = rows.length → 0 < j → ∀ x, 0 ≤ x → x ≤ 4611686018427387904 → ∃ y, findF (rows.drop k) x = some y := by
  intro j
  induction j with
  | zero => intro k _ h; omega
  | succ j ih =>
    intro k hk _ x h0 h1
    have hlt : k < rows.length := by omega
    rw [find_drop hlt]
    split
    · exact ⟨_, rfl⟩
    · next hn =>
      have hb := many_bound rows[k]
      rw [ho k hlt] at hn
      have h2 : k + 1 < rows.length := by
        by_cases h : k + 1 < rows.length
        · exact h
        · exact absurd (.inl (decide_eq_false h)) hn
      have h3 : ¬ x < manyR rows[k] := fun h => hn (.inr h)
      rw [IntWalk.wrap64_in _ (by omega)]
      exact ih (k + 1) (by omega) (by omega) _ (by omega) (by omega)
theorem find_at {rows : List Rw} (hi : RegI rows) (m : Nat) (hm : m < rows.length) (n : Int) (h0 : 0 ≤ n) (h1 : n ≤ 1099511627776) (h : m + 1 = rows.length ∨ n < manyR rows[m]) :
    ∀ j k, k + j = m → findF (rows.drop k) (startF rows m - startF rows k + n) = some (firstR rows + m, n) := by
  intro j
  have h64 := hi.1.2.1
  induction j with
  | zero =>
    intro k hk
    obtain rfl : k = m := by omega
    rw [find_drop hm, Int.sub_self, Int.zero_add, if_pos, first_get hi.1 k hm]
    rcases h with h | h
    · left; rw [hi.2 k hm]; exact decide_eq_false (by omega)
    · exact .inr h
  | succ j ih =>
    intro k hk
    have hlt : k < rows.length := by omega
    have hmono : ∀ d, k + 1 + d ≤ rows.length → startF rows (k + 1) ≤ startF rows (k + 1 + d) := by
      intro d
      induction d with
      | zero => intro _; simp
      | succ d ihd =>
        intro hd
        have e := start_next rows h64 (k + 1 + d) (by omega)
        have hb := many_bound (rows[k + 1 + d])
        have := ihd (by omega)
        rw [show k + 1 + (d + 1) = k + 1 + d + 1 by omega, e]
        omega
    have hle := hmono (m - (k + 1)) (by omega)
    rw [show k + 1 + (m - (k + 1)) = m by omega] at hle
    have e := start_next rows h64 k hlt
    have hb := many_bound rows[k]
    obtain ⟨b1, b2⟩ := start_bound rows h64 m (by omega)
    obtain ⟨b3, b4⟩ := start_bound rows h64 k (by omega)
    rw [find_drop hlt, if_neg, IntWalk.wrap64_in _ (by omega), show startF rows m - startF rows k + n - manyR rows[k] = startF rows m - startF rows (k + 1) + n by omega]
    · exact ih (k + 1) (by omega)
    · rintro (h5 | h5)
      · rw [hi.2 k hlt] at h5
        have := of_decide_eq_false h5
        omega
      · omega
/-- What the law asks of a place: it is found, and where it stands. -/
theorem find_law {rows : List Rw} (hi : RegI rows) (m : Nat) (hm : m < rows.length) (n : Int) (h0 : 0 ≤ n) (h1 : n ≤ 1099511627776) :
    ∃ y, findF rows (startF rows m + n) = some y ∧ ((m + 1 = rows.length ∨ n < startF rows (m + 1) - startF rows m) → y = (firstR rows + m, n)) := by
  have h64 := hi.1.2.1
  obtain ⟨b1, b2⟩ := start_bound rows h64 m (by omega)
  obtain ⟨y, hy⟩ := find_some hi.2 rows.length 0 (by omega) hi.1.1 (startF rows m + n) (by omega) (by omega)
  rw [List.drop_zero] at hy
  refine ⟨y, hy, fun h => ?_⟩
  rw [start_next rows h64 m hm] at h
  have := find_at hi m hm n h0 h1 (by rcases h with h | h; exact .inl h; exact .inr (by omega)) m 0 (by omega)
  rw [List.drop_zero, show startF rows 0 = 0 from rfl, Int.sub_zero, hy] at this
  exact Option.some.inj this
end Go.Proofs.Ytbjpoamnglfjeaa

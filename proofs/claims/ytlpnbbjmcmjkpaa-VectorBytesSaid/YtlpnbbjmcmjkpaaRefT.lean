/- Walks of the document's pack: a text read, and the end. -/
import Derived.Test.YtlpnbbjmcmjkpaaRefR
set_option linter.unusedVariables false
set_option linter.unusedSimpArgs false
namespace Go.Proofs.Ytlpnbbjmcmjkpaa
open Go.RowKit Cb

def takeS (s : ByteArray) (k : Nat) : ByteArray := ⟨(s.data.toList.take k).toArray⟩
def refText (most : Int) (s : ByteArray) (e : Int) : ByteArray × ByteArray × Int :=
  let a := refNum most s e
  if a.2.2 ≠ 0 then (⟨#[]⟩, a.2.1, a.2.2) else if (a.2.1.size : Int) < a.1 then (⟨#[]⟩, a.2.1, 20) else (takeS a.2.1 a.1.toNat, dropS a.2.1 a.1.toNat, 0)
theorem refNum_nonneg (most : Int) (s : ByteArray) (e : Int) : 0 ≤ (refNum most s e).1 := by
  unfold refNum
  split
  · simp
  · split
    · split <;> simp
    · dsimp only; split
      · simp
      · simp
def endE (s : ByteArray) (e : Int) : Int := if e = 0 ∧ 0 < s.size then 22 else e
theorem refend_any (s : ByteArray) (e : Int) (w : World) : Calls Try.prog 59 #[rdrV s e] w fun x w' => x = .returned (.int .i64 (endE s e)) ∧ Chg No w w' := by
  unfold rdrV
  by_cases he : e = 0
  · subst he
    by_cases hs : 0 < s.size
    · have : endE s 0 = 22 := if_pos ⟨rfl, hs⟩
      rw [this]; clear this
      have hs' : (0 : Int) < s.size := by omega
      go_enter Try.func59, Try.ntmps59
      go_wp2_with (first | (with_reducible refine stop_append ?_) | (with_reducible refine stop_copy ?_) | (with_reducible refine stop_make ?_) | (with_reducible refine stop_lookup ?_) | (with_reducible refine stop_update ?_) | (with_reducible refine stop_slice ?_) | (with_reducible refine stop_range ?_) | (with_reducible refine stop_next ?_) | (with_reducible refine stop_convert ⟨_, rfl⟩ ?_) | (with_reducible refine stop_convertB ⟨_, _, _, rfl⟩ ?_) | (with_reducible refine stop_eqSlice ⟨_, _, rfl⟩ ?_))
      go_ret
      exact ⟨rfl, (Chg.refl No w).alloc _⟩
    · have : endE s 0 = 0 := if_neg (fun h => hs h.2)
      rw [this]; clear this
      have hs' : ¬ (0 : Int) < s.size := by omega
      go_enter Try.func59, Try.ntmps59
      go_wp2_with (first | (with_reducible refine stop_append ?_) | (with_reducible refine stop_copy ?_) | (with_reducible refine stop_make ?_) | (with_reducible refine stop_lookup ?_) | (with_reducible refine stop_update ?_) | (with_reducible refine stop_slice ?_) | (with_reducible refine stop_range ?_) | (with_reducible refine stop_next ?_) | (with_reducible refine stop_convert ⟨_, rfl⟩ ?_) | (with_reducible refine stop_convertB ⟨_, _, _, rfl⟩ ?_) | (with_reducible refine stop_eqSlice ⟨_, _, rfl⟩ ?_))
      go_ret
      exact ⟨rfl, (Chg.refl No w).alloc _⟩
  · have : endE s e = e := if_neg (fun h => he h.1)
    rw [this]; clear this
    have he' : (e == 0) = false := by simpa using he
    go_enter Try.func59, Try.ntmps59
    go_wp2_with (first | (with_reducible refine stop_append ?_) | (with_reducible refine stop_copy ?_) | (with_reducible refine stop_make ?_) | (with_reducible refine stop_lookup ?_) | (with_reducible refine stop_update ?_) | (with_reducible refine stop_slice ?_) | (with_reducible refine stop_range ?_) | (with_reducible refine stop_next ?_) | (with_reducible refine stop_convert ⟨_, rfl⟩ ?_) | (with_reducible refine stop_convertB ⟨_, _, _, rfl⟩ ?_) | (with_reducible refine stop_eqSlice ⟨_, _, rfl⟩ ?_))
    go_ret
    exact ⟨rfl, (Chg.refl No w).alloc _⟩
end Go.Proofs.Ytlpnbbjmcmjkpaa

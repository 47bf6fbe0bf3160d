/- Walks of the statements' own helpers: few. -/
import Derived.Test.YtnioljagmimojaaPackW
import Derived.Test.YtnioljagmimojaaRow
set_option linter.unusedVariables false
set_option linter.unusedSimpArgs false
namespace Go.Proofs.Ytnioljagmimojaa
open Go.RowKit Cb

def sizes (xs : List ByteArray) : Nat := (xs.map ByteArray.size).sum
theorem sizes_snoc (xs : List ByteArray) (k : Nat) (h : k < xs.length) : sizes (xs.take (k + 1)) = sizes (xs.take k) + xs[k].size := by
  unfold sizes; rw [List.take_succ_eq_append_getElem h, List.map_append, List.sum_append]; simp
theorem sizes_le (xs : List ByteArray) (B : Nat) (h : ∀ x ∈ xs, x.size ≤ B) : sizes xs ≤ B * xs.length := by
  induction xs with
  | nil => simp [sizes]
  | cons x r ih =>
    have h1 := h x (by simp)
    have h2 := ih (fun y hy => h y (by simp [hy]))
    simp only [sizes, List.map_cons, List.sum_cons, List.length_cons] at h2 ⊢
    rw [Nat.mul_add]; omega
theorem sizes_mem {xs : List ByteArray} {x : ByteArray} (h : x ∈ xs) : x.size ≤ sizes xs := by
  induction xs with
  | nil => simp at h
  | cons y r ih =>
    simp only [sizes, List.map_cons, List.sum_cons] at ih ⊢
    rcases List.mem_cons.1 h with rfl | h
    · omega
    · have := ih h; omega
def fewB (xs : List ByteArray) : Bool := decide (xs.length ≤ 40) && decide (sizes xs ≤ 10000)
set_option maxRecDepth 100000 in
set_option maxHeartbeats 1000000 in
theorem few_any (F : Nat → Prop) (v : Value) (xs : List ByteArray) (w : World) (h : Sl F w v xs) (hl : xs.length ≤ 140737488351232) (hb : ∀ x ∈ xs, x.size ≤ 140737488351232) :
    Calls Try.prog 22 #[v] w fun e w' => e = .returned (.bool (fewB xs)) ∧ Chg No w w' := by
  obtain ⟨A, c, rfl⟩ := h.slice
  have H := Lib.hid h
  have Hb := Lib.hid hb
  clear h hb
  go_enter Try.func22, Try.ntmps22
  go_wp2_with (first | (with_reducible refine stop_append ?_) | (with_reducible refine stop_copy ?_) | (with_reducible refine stop_make ?_) | (with_reducible refine stop_lookup ?_) | (with_reducible refine stop_update ?_) | (with_reducible refine stop_slice ?_) | (with_reducible refine stop_range ?_) | (with_reducible refine stop_next ?_) | (with_reducible refine stop_convert ⟨_, rfl⟩ ?_) | (with_reducible refine stop_convertB ⟨_, _, _, rfl⟩ ?_) | (with_reducible refine stop_eqSlice ⟨_, _, rfl⟩ ?_))
  go_loopw [3, 8] (fun v3 v8 wr => ∃ (k : Nat) (n : Int), k ≤ xs.length ∧ v8 = .int .i64 k ∧ v3 = .int .i64 n ∧ (xs.length ≤ 40 → n = sizes (xs.take k)) ∧ Chg No w wr) (fun _ v8 _ => xs.length - (intOf v8).toNat)
  case atStart => exact ⟨0, 0, by omega, rfl, rfl, fun _ => by simp [sizes], Chg.refl _ _⟩
  case round =>
    obtain ⟨k, n, hk, rfl, rfl, hn, hc⟩ := hrel
    have Hn := Lib.hid hn; clear hn
    by_cases hlt : k < xs.length
    · obtain ⟨b, o, d, rfl, _, hbl, rfl, ha⟩ := (H.out.keepNo hc).get k hlt
      have ha0 := ha 0 _ rfl
      simp only [show Rep.n ByteArray = 1 from rfl, Nat.mul_one, Nat.add_zero] at ha0
      have Hx := Lib.hid (Hb.out _ (List.getElem_mem hlt))
      have Hs := Lib.hid (sizes_snoc xs k hlt)
      clear ha
      generalize xs[k] = x at ha0 Hs Hx
      go_wp2_with (first | (with_reducible refine stop_append ?_) | (with_reducible refine stop_copy ?_) | (with_reducible refine stop_make ?_) | (with_reducible refine stop_lookup ?_) | (with_reducible refine stop_update ?_) | (with_reducible refine stop_slice ?_) | (with_reducible refine stop_range ?_) | (with_reducible refine stop_next ?_) | (with_reducible refine stop_convert ⟨_, rfl⟩ ?_) | (with_reducible refine stop_convertB ⟨_, _, _, rfl⟩ ?_) | (with_reducible refine stop_eqSlice ⟨_, _, rfl⟩ ?_))
      go_roundw
      case rel =>
        refine ⟨k + 1, _, by omega, by go_num, rfl, fun h40 => ?_, hc⟩
        have h1 := Hn.out h40
        have h2 := Hs.out
        have h3 := Hx.out
        have h4 := sizes_le (xs.take k) 140737488351232 (fun y hy => Hb.out y (List.mem_of_mem_take hy))
        rw [List.length_take] at h4
        rw [h1, IntWalk.wrap64_in _ (by omega)]; omega
      case measure => simp [intOf]; omega
    · obtain rfl : k = xs.length := by omega
      have Hn := Hn.out
      rw [List.take_length] at Hn
      by_cases h40 : xs.length ≤ 40
      · have hn := Hn h40
        subst hn
        have hi : (xs.length : Int) ≤ 40 := by omega
        clear Hn H Hb
        go_wp2_with (first | (with_reducible refine stop_append ?_) | (with_reducible refine stop_copy ?_) | (with_reducible refine stop_make ?_) | (with_reducible refine stop_lookup ?_) | (with_reducible refine stop_update ?_) | (with_reducible refine stop_slice ?_) | (with_reducible refine stop_range ?_) | (with_reducible refine stop_next ?_) | (with_reducible refine stop_convert ⟨_, rfl⟩ ?_) | (with_reducible refine stop_convertB ⟨_, _, _, rfl⟩ ?_) | (with_reducible refine stop_eqSlice ⟨_, _, rfl⟩ ?_))
        go_ret
        exact ⟨by simp [fewB, h40]; omega, hc⟩
      · have hi : ¬ (xs.length : Int) ≤ 40 := by omega
        clear Hn H Hb
        go_wp2_with (first | (with_reducible refine stop_append ?_) | (with_reducible refine stop_copy ?_) | (with_reducible refine stop_make ?_) | (with_reducible refine stop_lookup ?_) | (with_reducible refine stop_update ?_) | (with_reducible refine stop_slice ?_) | (with_reducible refine stop_range ?_) | (with_reducible refine stop_next ?_) | (with_reducible refine stop_convert ⟨_, rfl⟩ ?_) | (with_reducible refine stop_convertB ⟨_, _, _, rfl⟩ ?_) | (with_reducible refine stop_eqSlice ⟨_, _, rfl⟩ ?_))
        go_ret
        exact ⟨by simp [fewB, h40], hc⟩
end Go.Proofs.Ytnioljagmimojaa

/- Walks of the document's pack: what reads. -/
import Derived.Test.YtlpnbbjmcmjkpaaRefW
set_option linter.unusedVariables false
set_option linter.unusedSimpArgs false
namespace Go.Proofs.Ytlpnbbjmcmjkpaa
open Go.RowKit Cb

def failE (e n : Int) : Int := if e = 0 then n else e
def lastI (l : List UInt8) : Int := match (l.take 9).findIdx? (fun b => decide (b < 128)) with | none => -1 | some k => k
def rdrV (b : ByteArray) (e : Int) : Value := .agg #[.string b, .int .i64 e]
theorem reffailed_any (b : ByteArray) (e n : Int) (w : World) : Calls Try.prog 70 #[rdrV b e, .int .i64 n] w fun x w' => x = .returned (rdrV b (failE e n)) ∧ Chg No w w' := by
  unfold rdrV
  have c1 := (Chg.refl No w).alloc (.cells #[.string b, .int .i64 e] 61)
  by_cases he : e = 0
  · subst he
    rw [show failE 0 n = n from rfl]
    go_enter Try.func70, Try.ntmps70
    go_wp2_with (first | (with_reducible refine stop_append ?_) | (with_reducible refine stop_copy ?_) | (with_reducible refine stop_make ?_) | (with_reducible refine stop_lookup ?_) | (with_reducible refine stop_update ?_) | (with_reducible refine stop_slice ?_) | (with_reducible refine stop_range ?_) | (with_reducible refine stop_next ?_) | (with_reducible refine stop_convert ⟨_, rfl⟩ ?_) | (with_reducible refine stop_convertB ⟨_, _, _, rfl⟩ ?_) | (with_reducible refine stop_eqSlice ⟨_, _, rfl⟩ ?_))
    refine bodyPost_ret (v := .agg #[.string b, .int .i64 n]) (by simp [results, Try.results70, go_sem, *]) rfl ?_
    exact ⟨rfl, ((Chg.refl No w).alloc _).alloc _⟩
  · rw [show failE e n = e from if_neg he]
    have he' : (e == 0) = false := by simpa using he
    go_enter Try.func70, Try.ntmps70
    go_wp2_with (first | (with_reducible refine stop_append ?_) | (with_reducible refine stop_copy ?_) | (with_reducible refine stop_make ?_) | (with_reducible refine stop_lookup ?_) | (with_reducible refine stop_update ?_) | (with_reducible refine stop_slice ?_) | (with_reducible refine stop_range ?_) | (with_reducible refine stop_next ?_) | (with_reducible refine stop_convert ⟨_, rfl⟩ ?_) | (with_reducible refine stop_convertB ⟨_, _, _, rfl⟩ ?_) | (with_reducible refine stop_eqSlice ⟨_, _, rfl⟩ ?_))
    refine bodyPost_ret (v := .agg #[.string b, .int .i64 e]) (by simp [results, Try.results70, go_sem, *]) rfl ?_
    exact ⟨rfl, ((Chg.refl No w).alloc _).alloc _⟩
theorem lastI_some {s : ByteArray} {k : Nat} (h : k < s.size) (h9 : k < 9) (hb : s[k].toNat < 128) (hall : ∀ i (h : i < s.size), i < k → ¬ s[i].toNat < 128) : lastI s.data.toList = k := by
  have hl : s.data.toList.length = s.size := by rw [Array.length_toList]; rfl
  unfold lastI
  rw [(List.findIdx?_eq_some_iff_getElem (i := k)).2 ⟨by rw [List.length_take]; omega, ?_, ?_⟩]
  · rw [List.getElem_take]
    have : s.data[k].toNat < 128 := hb
    simpa [UInt8.lt_iff_toNat_lt] using this
  · intro j hj
    rw [List.getElem_take]
    have : ¬ (s.data[j]'(show j < s.size by omega)).toNat < 128 := hall j (by omega) hj
    simpa [UInt8.lt_iff_toNat_lt] using this
theorem lastI_none {s : ByteArray} (hall : ∀ i (h : i < s.size), i < 9 → ¬ s[i].toNat < 128) : lastI s.data.toList = -1 := by
  have hl : s.data.toList.length = s.size := by rw [Array.length_toList]; rfl
  unfold lastI
  rw [List.findIdx?_eq_none_iff.2]
  intro x hx
  obtain ⟨i, hi, rfl⟩ := List.mem_iff_getElem.1 hx
  rw [List.length_take] at hi
  rw [List.getElem_take]
  have : ¬ (s.data[i]'(show i < s.size by omega)).toNat < 128 := hall i (by omega) (by omega)
  simpa [UInt8.lt_iff_toNat_lt] using this
set_option maxRecDepth 100000 in
set_option maxHeartbeats 1000000 in
theorem reflast_any (s : ByteArray) (w : World) : Calls Try.prog 69 #[.string s] w fun x w' => x = .returned (.int .i64 (lastI s.data.toList)) ∧ w = w' := by
  go_enter Try.func69, Try.ntmps69
  go_wp2_with (first | (with_reducible refine stop_append ?_) | (with_reducible refine stop_copy ?_) | (with_reducible refine stop_make ?_) | (with_reducible refine stop_lookup ?_) | (with_reducible refine stop_update ?_) | (with_reducible refine stop_slice ?_) | (with_reducible refine stop_range ?_) | (with_reducible refine stop_next ?_) | (with_reducible refine stop_convert ⟨_, rfl⟩ ?_) | (with_reducible refine stop_convertB ⟨_, _, _, rfl⟩ ?_) | (with_reducible refine stop_eqSlice ⟨_, _, rfl⟩ ?_))
  go_loop [3] (fun v3 => ∃ k : Nat, k ≤ s.size ∧ k ≤ 9 ∧ v3 = .int .i64 k ∧ ∀ i (h : i < s.size), i < k → ¬ s[i].toNat < 128) (fun v3 => 9 - (intOf v3).toNat)
  case atStart => exact ⟨0, by omega, by omega, rfl, fun _ _ h => by omega⟩
  case round =>
    obtain ⟨k, hk, hk9, rfl, hall⟩ := hrel
    have Hall := Lib.hid hall; clear hall
    by_cases hlt : k < s.size
    · by_cases h9 : k < 9
      · by_cases hb : s[k].toNat < 128
        · have hb' : (s[k].toNat : Int) < 128 := by omega
          go_wp2_with (first | (with_reducible refine stop_append ?_) | (with_reducible refine stop_copy ?_) | (with_reducible refine stop_make ?_) | (with_reducible refine stop_lookup ?_) | (with_reducible refine stop_update ?_) | (with_reducible refine stop_slice ?_) | (with_reducible refine stop_range ?_) | (with_reducible refine stop_next ?_) | (with_reducible refine stop_convert ⟨_, rfl⟩ ?_) | (with_reducible refine stop_convertB ⟨_, _, _, rfl⟩ ?_) | (with_reducible refine stop_eqSlice ⟨_, _, rfl⟩ ?_))
          go_ret
          exact ⟨by rw [lastI_some hlt h9 hb Hall.out]; rfl, rfl⟩
        · have hb' : ¬ (s[k].toNat : Int) < 128 := by omega
          go_wp2_with (first | (with_reducible refine stop_append ?_) | (with_reducible refine stop_copy ?_) | (with_reducible refine stop_make ?_) | (with_reducible refine stop_lookup ?_) | (with_reducible refine stop_update ?_) | (with_reducible refine stop_slice ?_) | (with_reducible refine stop_range ?_) | (with_reducible refine stop_next ?_) | (with_reducible refine stop_convert ⟨_, rfl⟩ ?_) | (with_reducible refine stop_convertB ⟨_, _, _, rfl⟩ ?_) | (with_reducible refine stop_eqSlice ⟨_, _, rfl⟩ ?_))
          go_round
          case rel => exact ⟨k + 1, by omega, by omega, by go_num, fun i h hi => by
            by_cases h' : i < k
            · exact Hall.out i h h'
            · obtain rfl : i = k := by omega
              exact hb⟩
          case measure => simp [intOf]; omega
      · obtain rfl : k = 9 := by omega
        go_wp2_with (first | (with_reducible refine stop_append ?_) | (with_reducible refine stop_copy ?_) | (with_reducible refine stop_make ?_) | (with_reducible refine stop_lookup ?_) | (with_reducible refine stop_update ?_) | (with_reducible refine stop_slice ?_) | (with_reducible refine stop_range ?_) | (with_reducible refine stop_next ?_) | (with_reducible refine stop_convert ⟨_, rfl⟩ ?_) | (with_reducible refine stop_convertB ⟨_, _, _, rfl⟩ ?_) | (with_reducible refine stop_eqSlice ⟨_, _, rfl⟩ ?_))
        go_ret
        exact ⟨by rw [lastI_none Hall.out]; rfl, rfl⟩
    · go_wp2_with (first | (with_reducible refine stop_append ?_) | (with_reducible refine stop_copy ?_) | (with_reducible refine stop_make ?_) | (with_reducible refine stop_lookup ?_) | (with_reducible refine stop_update ?_) | (with_reducible refine stop_slice ?_) | (with_reducible refine stop_range ?_) | (with_reducible refine stop_next ?_) | (with_reducible refine stop_convert ⟨_, rfl⟩ ?_) | (with_reducible refine stop_convertB ⟨_, _, _, rfl⟩ ?_) | (with_reducible refine stop_eqSlice ⟨_, _, rfl⟩ ?_))
      go_ret
      exact ⟨by rw [lastI_none (fun i h _ => Hall.out i h (by omega))]; rfl, rfl⟩
theorem lastI_cases (s : ByteArray) : lastI s.data.toList = -1 ∨ ∃ k : Nat, k < 9 ∧ k < s.size ∧ lastI s.data.toList = k := by
  have hl : s.data.toList.length = s.size := by rw [Array.length_toList]; rfl
  unfold lastI
  cases h : (s.data.toList.take 9).findIdx? (fun b => decide (b < 128)) with
  | none => exact .inl rfl
  | some k =>
    obtain ⟨hk, _⟩ := List.findIdx?_eq_some_iff_getElem.1 h
    rw [List.length_take] at hk
    exact .inr ⟨k, by omega, by omega, rfl⟩
def valL : List UInt8 → Nat
  | [] => 0
  | b :: r => valL r * 128 + b.toNat % 128
theorem valL_lt (l : List UInt8) : valL l < 128 ^ l.length := by
  induction l with
  | nil => simp [valL]
  | cons b r ih => simp only [valL, List.length_cons, Nat.pow_succ]; omega
def dropS (s : ByteArray) (k : Nat) : ByteArray := ⟨(s.data.toList.drop k).toArray⟩
def refNum (most : Int) (s : ByteArray) (e : Int) : Int × ByteArray × Int :=
  if e ≠ 0 then (0, s, e) else
  if lastI s.data.toList < 0 then (if s.size < 9 then (0, ⟨#[]⟩, 20) else (0, dropS s 9, 21)) else
  let k := (lastI s.data.toList).toNat
  let n : Int := valL (s.data.toList.take (k + 1))
  if numS n = s.data.toList.take (k + 1) ∧ n ≤ most then (n, dropS s (k + 1), 0) else (0, dropS s (k + 1), 21)
theorem valL_step (s : ByteArray) (k i : Nat) (hk : i < k + 1) (hi : i < s.size) : valL ((s.data.toList.take (k + 1)).drop i) = valL ((s.data.toList.take (k + 1)).drop (i + 1)) * 128 + s[i].toNat % 128 := by
  have hl : s.data.toList.length = s.size := by rw [Array.length_toList]; rfl
  rw [List.drop_eq_getElem_cons (by rw [List.length_take]; omega), valL, List.getElem_take]
  rfl
theorem cut_drop (s : ByteArray) (k : Nat) : (⟨((s.data.toList.take s.size).drop k).toArray⟩ : ByteArray) = dropS s k := by
  unfold dropS; rw [List.take_of_length_le (by rw [Array.length_toList]; exact Nat.le_refl _)]
def RN (most : Int) (s : ByteArray) (e : Int) (w : World) (x : Ending) (w' : World) : Prop :=
  x = .returned (.tuple #[rdrV (refNum most s e).2.1 (refNum most s e).2.2, .int .i64 (refNum most s e).1]) ∧ Chg No w w'
set_option maxRecDepth 100000 in
set_option maxHeartbeats 1000000 in
theorem refreadnum_err (s : ByteArray) (e most : Int) (w : World) (he : e ≠ 0) : Calls Try.prog 58 #[rdrV s e, .int .i64 most] w (RN most s e w) := by
  have hR : refNum most s e = (0, s, e) := by unfold refNum; rw [if_pos he]
  unfold RN
  rw [hR]
  clear hR
  unfold rdrV
  have he' : (e == 0) = false := by simpa using he
  go_enter Try.func58, Try.ntmps58
  go_wp2_with (first | (with_reducible refine stop_append ?_) | (with_reducible refine stop_copy ?_) | (with_reducible refine stop_make ?_) | (with_reducible refine stop_lookup ?_) | (with_reducible refine stop_update ?_) | (with_reducible refine stop_slice ?_) | (with_reducible refine stop_range ?_) | (with_reducible refine stop_next ?_) | (with_reducible refine stop_convert ⟨_, rfl⟩ ?_) | (with_reducible refine stop_convertB ⟨_, _, _, rfl⟩ ?_) | (with_reducible refine stop_eqSlice ⟨_, _, rfl⟩ ?_))
  refine bodyPost_ret (v := .tuple #[.agg #[.string s, .int .i64 e], .int .i64 0]) (by simp [results, Try.results58, go_sem, *]) rfl ?_
  exact ⟨rfl, ((Chg.refl No w).alloc _).alloc _⟩
set_option maxRecDepth 100000 in
set_option maxHeartbeats 1000000 in
theorem refreadnum_short (s : ByteArray) (most : Int) (w : World) (h : lastI s.data.toList = -1) : Calls Try.prog 58 #[rdrV s 0, .int .i64 most] w (RN most s 0 w) := by
  by_cases h9 : s.size < 9
  · have hR : refNum most s 0 = (0, ⟨#[]⟩, 20) := by unfold refNum; rw [if_neg (by simp), if_pos (by omega), if_pos h9]
    unfold RN
    rw [hR]
    clear hR
    unfold rdrV
    have c := reflast_any s
    rw [h] at c
    have Hh := Lib.hid h; clear h
    have h9' : (s.size : Int) < 9 := by omega
    go_enter Try.func58, Try.ntmps58
    go_wp2_with (first | (with_reducible refine stop_append ?_) | (with_reducible refine stop_copy ?_) | (with_reducible refine stop_make ?_) | (with_reducible refine stop_lookup ?_) | (with_reducible refine stop_update ?_) | (with_reducible refine stop_slice ?_) | (with_reducible refine stop_range ?_) | (with_reducible refine stop_next ?_) | (with_reducible refine stop_convert ⟨_, rfl⟩ ?_) | (with_reducible refine stop_convertB ⟨_, _, _, rfl⟩ ?_) | (with_reducible refine stop_eqSlice ⟨_, _, rfl⟩ ?_))
    refine (c _).mono ?_
    rintro e w1 ⟨rfl, rfl⟩
    go_wp2_with (first | (with_reducible refine stop_append ?_) | (with_reducible refine stop_copy ?_) | (with_reducible refine stop_make ?_) | (with_reducible refine stop_lookup ?_) | (with_reducible refine stop_update ?_) | (with_reducible refine stop_slice ?_) | (with_reducible refine stop_range ?_) | (with_reducible refine stop_next ?_) | (with_reducible refine stop_convert ⟨_, rfl⟩ ?_) | (with_reducible refine stop_convertB ⟨_, _, _, rfl⟩ ?_) | (with_reducible refine stop_eqSlice ⟨_, _, rfl⟩ ?_))
    have hc0 := ((Chg.refl No w).alloc (.cells #[.string ⟨#[]⟩, .int .i64 0] 61)).alloc (.cells #[.string ⟨#[]⟩, .int .i64 0] 61)
    have o4 := alloc_obj (w.alloc (.cells #[.string ⟨#[]⟩, .int .i64 0] 61)) (.cells #[.string ⟨#[]⟩, .int .i64 0] 61)
    have hq : (w.alloc (.cells #[.string ⟨#[]⟩, .int .i64 0] 61)).heap.size = w.heap.size + 1 := by simp
    rw [hq] at o4
    refine (reffailed_any _ _ _ _).mono ?_
    generalize (w.alloc (.cells #[.string ⟨#[]⟩, .int .i64 0] 61)).alloc (.cells #[.string ⟨#[]⟩, .int .i64 0] 61) = w2 at *
    rintro e w3 ⟨rfl, hc3⟩
    have o4 := hc3.obj o4 (not_no _)
    have f4 := free_obj (i := 0) o4
    have f5 := free_obj (i := 1) o4
    have c4 := cell_obj (i := 0) o4 rfl
    have c5 := cell_obj (i := 1) o4 rfl
    have hge : w.heap.size ≤ w.heap.size + 1 := by omega
    simp only [rdrV, failE, if_true]
    generalize w.heap.size + 1 = q4 at *
    go_wp2_with (first | (with_reducible refine stop_append ?_) | (with_reducible refine stop_copy ?_) | (with_reducible refine stop_make ?_) | (with_reducible refine stop_lookup ?_) | (with_reducible refine stop_update ?_) | (with_reducible refine stop_slice ?_) | (with_reducible refine stop_range ?_) | (with_reducible refine stop_next ?_) | (with_reducible refine stop_convert ⟨_, rfl⟩ ?_) | (with_reducible refine stop_convertB ⟨_, _, _, rfl⟩ ?_) | (with_reducible refine stop_eqSlice ⟨_, _, rfl⟩ ?_))
    refine bodyPost_ret (v := .tuple #[.agg #[.string ⟨#[]⟩, .int .i64 20], .int .i64 0]) (by simp [results, Try.results58, go_sem, *]) rfl ?_
    exact ⟨rfl, (((hc0.trans hc3).setCell (.inr hge) _).setCell (.inr hge) _)⟩
  · have hR : refNum most s 0 = (0, dropS s 9, 21) := by unfold refNum; rw [if_neg (by simp), if_pos (by omega), if_neg h9]
    unfold RN
    rw [hR]
    clear hR
    obtain ⟨s', hs'⟩ : ∃ s', s' = dropS s 9 := ⟨_, rfl⟩
    rw [← hs']
    have Hs' := Lib.hid hs'; clear hs'
    unfold rdrV
    have c := reflast_any s
    rw [h] at c
    have Hh := Lib.hid h; clear h
    have h9' : ¬ (s.size : Int) < 9 := by omega
    go_enter Try.func58, Try.ntmps58
    go_wp2_with (first | (with_reducible refine stop_append ?_) | (with_reducible refine stop_copy ?_) | (with_reducible refine stop_make ?_) | (with_reducible refine stop_lookup ?_) | (with_reducible refine stop_update ?_) | (with_reducible refine stop_slice ?_) | (with_reducible refine stop_range ?_) | (with_reducible refine stop_next ?_) | (with_reducible refine stop_convert ⟨_, rfl⟩ ?_) | (with_reducible refine stop_convertB ⟨_, _, _, rfl⟩ ?_) | (with_reducible refine stop_eqSlice ⟨_, _, rfl⟩ ?_))
    refine (c _).mono ?_
    rintro e w1 ⟨rfl, rfl⟩
    go_wp2_with (first | (with_reducible refine stop_append ?_) | (with_reducible refine stop_copy ?_) | (with_reducible refine stop_make ?_) | (with_reducible refine stop_lookup ?_) | (with_reducible refine stop_update ?_) | (with_reducible refine stop_slice ?_) | (with_reducible refine stop_range ?_) | (with_reducible refine stop_next ?_) | (with_reducible refine stop_convert ⟨_, rfl⟩ ?_) | (with_reducible refine stop_convertB ⟨_, _, _, rfl⟩ ?_) | (with_reducible refine stop_eqSlice ⟨_, _, rfl⟩ ?_))
    refine step_slice_text (l := 9) (h := s.size) Try.underlying9 rfl (Bound.some rfl) Bound.none (by omega) (by omega) ?_
    rw [cut_drop, ← Hs'.out]
    go_wp2_with (first | (with_reducible refine stop_append ?_) | (with_reducible refine stop_copy ?_) | (with_reducible refine stop_make ?_) | (with_reducible refine stop_lookup ?_) | (with_reducible refine stop_update ?_) | (with_reducible refine stop_slice ?_) | (with_reducible refine stop_range ?_) | (with_reducible refine stop_next ?_) | (with_reducible refine stop_convert ⟨_, rfl⟩ ?_) | (with_reducible refine stop_convertB ⟨_, _, _, rfl⟩ ?_) | (with_reducible refine stop_eqSlice ⟨_, _, rfl⟩ ?_))
    have hc0 := ((Chg.refl No w).alloc (.cells #[.string s', .int .i64 0] 61)).alloc (.cells #[.string ⟨#[]⟩, .int .i64 0] 61)
    have o4 := alloc_obj (w.alloc (.cells #[.string s', .int .i64 0] 61)) (.cells #[.string ⟨#[]⟩, .int .i64 0] 61)
    have hq : (w.alloc (.cells #[.string s', .int .i64 0] 61)).heap.size = w.heap.size + 1 := by simp
    rw [hq] at o4
    refine (reffailed_any _ _ _ _).mono ?_
    generalize (w.alloc (.cells #[.string s', .int .i64 0] 61)).alloc (.cells #[.string ⟨#[]⟩, .int .i64 0] 61) = w2 at *
    rintro e w3 ⟨rfl, hc3⟩
    have o4 := hc3.obj o4 (not_no _)
    have f4 := free_obj (i := 0) o4
    have f5 := free_obj (i := 1) o4
    have c4 := cell_obj (i := 0) o4 rfl
    have c5 := cell_obj (i := 1) o4 rfl
    have hge : w.heap.size ≤ w.heap.size + 1 := by omega
    simp only [rdrV, failE, if_true]
    generalize w.heap.size + 1 = q4 at *
    go_wp2_with (first | (with_reducible refine stop_append ?_) | (with_reducible refine stop_copy ?_) | (with_reducible refine stop_make ?_) | (with_reducible refine stop_lookup ?_) | (with_reducible refine stop_update ?_) | (with_reducible refine stop_slice ?_) | (with_reducible refine stop_range ?_) | (with_reducible refine stop_next ?_) | (with_reducible refine stop_convert ⟨_, rfl⟩ ?_) | (with_reducible refine stop_convertB ⟨_, _, _, rfl⟩ ?_) | (with_reducible refine stop_eqSlice ⟨_, _, rfl⟩ ?_))
    refine bodyPost_ret (v := .tuple #[.agg #[.string s', .int .i64 21], .int .i64 0]) (by simp [results, Try.results58, go_sem, *]) rfl ?_
    exact ⟨rfl, (((hc0.trans hc3).setCell (.inr hge) _).setCell (.inr hge) _)⟩
set_option maxRecDepth 100000 in
set_option maxHeartbeats 1000000 in
theorem refreadnum_main (s : ByteArray) (most : Int) (w : World) (k : Nat) (hk9 : k < 9) (hks : k < s.size) (h : lastI s.data.toList = k) : Calls Try.prog 58 #[rdrV s 0, .int .i64 most] w (RN most s 0 w) := by
  have hl : s.data.toList.length = s.size := by rw [Array.length_toList]; rfl
  have hR : refNum most s 0 = if numS (valL (s.data.toList.take (k + 1))) = s.data.toList.take (k + 1) ∧ (valL (s.data.toList.take (k + 1)) : Int) ≤ most then ((valL (s.data.toList.take (k + 1)) : Int), dropS s (k + 1), 0) else (0, dropS s (k + 1), 21) := by
    unfold refNum; rw [if_neg (by simp), if_neg (by omega), h]; rfl
  obtain ⟨s', hs'⟩ : ∃ s', s' = dropS s (k + 1) := ⟨_, rfl⟩
  obtain ⟨tl, htl⟩ : ∃ tl, tl = s.data.toList.take (k + 1) := ⟨_, rfl⟩
  rw [← hs', ← htl] at hR
  have HR := Lib.hid hR; clear hR
  have Hs' := Lib.hid hs'; have Htl := Lib.hid htl
  unfold rdrV
  have c := reflast_any s
  rw [h] at c
  have Hh := Lib.hid h; clear h
  have hv0 : valL tl < 9223372036854775808 := Nat.lt_of_lt_of_le (valL_lt _) (Nat.le_trans (Nat.pow_le_pow_right (by omega) (show _ ≤ 9 by rw [htl, List.length_take]; omega)) (by decide))
  clear hs' htl
  go_enter Try.func58, Try.ntmps58
  go_wp2_with (first | (with_reducible refine stop_append ?_) | (with_reducible refine stop_copy ?_) | (with_reducible refine stop_make ?_) | (with_reducible refine stop_lookup ?_) | (with_reducible refine stop_update ?_) | (with_reducible refine stop_slice ?_) | (with_reducible refine stop_range ?_) | (with_reducible refine stop_next ?_) | (with_reducible refine stop_convert ⟨_, rfl⟩ ?_) | (with_reducible refine stop_convertB ⟨_, _, _, rfl⟩ ?_) | (with_reducible refine stop_eqSlice ⟨_, _, rfl⟩ ?_))
  refine (c _).mono ?_
  rintro e w1 ⟨rfl, rfl⟩
  go_wp2_with (first | (with_reducible refine stop_append ?_) | (with_reducible refine stop_copy ?_) | (with_reducible refine stop_make ?_) | (with_reducible refine stop_lookup ?_) | (with_reducible refine stop_update ?_) | (with_reducible refine stop_slice ?_) | (with_reducible refine stop_range ?_) | (with_reducible refine stop_next ?_) | (with_reducible refine stop_convert ⟨_, rfl⟩ ?_) | (with_reducible refine stop_convertB ⟨_, _, _, rfl⟩ ?_) | (with_reducible refine stop_eqSlice ⟨_, _, rfl⟩ ?_))
  go_loop [7, 8] (fun v7 v8 => ∃ (j : Nat) (x : Int), j ≤ k + 1 ∧ x = j - 1 ∧ v8 = .int .i64 x ∧ v7 = .int .i64 (valL (tl.drop j))) (fun _ v8 => (intOf v8 + 1).toNat)
  case atStart => exact ⟨k + 1, k, by omega, by omega, rfl, by rw [Htl.out, List.drop_eq_nil_of_le (by rw [List.length_take]; omega)]; rfl⟩
  case round =>
    obtain ⟨j, x, hj, hx, rfl, rfl⟩ := hrel
    cases j with
    | zero =>
      obtain rfl : x = -1 := by omega
      rw [List.drop_zero]
      obtain ⟨n, hn⟩ : ∃ n, n = valL tl := ⟨_, rfl⟩
      rw [← hn] at hv0 ⊢
      have Hn := Lib.hid hn; clear hn hx hj c hl
      go_wp2_with (first | (with_reducible refine stop_append ?_) | (with_reducible refine stop_copy ?_) | (with_reducible refine stop_make ?_) | (with_reducible refine stop_lookup ?_) | (with_reducible refine stop_update ?_) | (with_reducible refine stop_slice ?_) | (with_reducible refine stop_range ?_) | (with_reducible refine stop_next ?_) | (with_reducible refine stop_convert ⟨_, rfl⟩ ?_) | (with_reducible refine stop_convertB ⟨_, _, _, rfl⟩ ?_) | (with_reducible refine stop_eqSlice ⟨_, _, rfl⟩ ?_))
      refine step_slice_text (l := 0) (h := k + 1) Try.underlying9 rfl Bound.none (Bound.some' rfl (by simp)) (by omega) (by omega) ?_
      rw [List.drop_zero, ← Htl.out]
      obtain ⟨b, hb⟩ : ∃ b : ByteArray, b = ⟨tl.toArray⟩ := ⟨_, rfl⟩
      rw [← hb]
      have Hb := Lib.hid hb; clear hb
      go_wp2_with (first | (with_reducible refine stop_append ?_) | (with_reducible refine stop_copy ?_) | (with_reducible refine stop_make ?_) | (with_reducible refine stop_lookup ?_) | (with_reducible refine stop_update ?_) | (with_reducible refine stop_slice ?_) | (with_reducible refine stop_range ?_) | (with_reducible refine stop_next ?_) | (with_reducible refine stop_convert ⟨_, rfl⟩ ?_) | (with_reducible refine stop_convertB ⟨_, _, _, rfl⟩ ?_) | (with_reducible refine stop_eqSlice ⟨_, _, rfl⟩ ?_))
      refine step_slice_text (l := k + 1) (h := s.size) Try.underlying9 rfl (Bound.some' rfl (by simp)) Bound.none (by omega) (by omega) ?_
      rw [cut_drop, ← Hs'.out]
      go_wp2_with (first | (with_reducible refine stop_append ?_) | (with_reducible refine stop_copy ?_) | (with_reducible refine stop_make ?_) | (with_reducible refine stop_lookup ?_) | (with_reducible refine stop_update ?_) | (with_reducible refine stop_slice ?_) | (with_reducible refine stop_range ?_) | (with_reducible refine stop_next ?_) | (with_reducible refine stop_convert ⟨_, rfl⟩ ?_) | (with_reducible refine stop_convertB ⟨_, _, _, rfl⟩ ?_) | (with_reducible refine stop_eqSlice ⟨_, _, rfl⟩ ?_))
      have hc0 := ((Chg.refl No w).alloc (.cells #[.string s', .int .i64 0] 61)).alloc (.cells #[.string ⟨#[]⟩, .int .i64 0] 61)
      have o4 := alloc_obj (w.alloc (.cells #[.string s', .int .i64 0] 61)) (.cells #[.string ⟨#[]⟩, .int .i64 0] 61)
      have o2 := ((Chg.refl No _).alloc (.cells #[.string ⟨#[]⟩, .int .i64 0] 61)).obj (alloc_obj w (.cells #[.string s', .int .i64 0] 61)) (not_no _)
      have hq : (w.alloc (.cells #[.string s', .int .i64 0] 61)).heap.size = w.heap.size + 1 := by simp
      rw [hq] at o4
      have hge : w.heap.size ≤ w.heap.size + 1 := by omega
      refine (refnum_any _ _).mono ?_
      generalize (w.alloc (.cells #[.string s', .int .i64 0] 61)).alloc (.cells #[.string ⟨#[]⟩, .int .i64 0] 61) = w2 at *
      rintro e w3 ⟨rfl, hc3⟩
      obtain ⟨a, ha⟩ : ∃ a : ByteArray, a = ⟨(numS (n : Int)).toArray⟩ := ⟨_, rfl⟩
      simp only [str]
      rw [← ha]
      have hab : a = b ↔ numS (valL tl : Int) = tl := by rw [ha, Hb.out, ByteArray.ext_iff, ← Hn.out]; exact ⟨fun h => by simpa using congrArg Array.toList h, fun h => by rw [h]⟩
      have Hab := Lib.hid hab; clear hab ha
      have o4 := hc3.obj o4 (not_no _)
      have o2 := hc3.obj o2 (not_no _)
      have f4 := free_obj (i := 0) o4
      have f5 := free_obj (i := 1) o4
      have c4 := cell_obj (i := 0) o4 rfl
      have c5 := cell_obj (i := 1) o4 rfl
      have b0 := cell_obj (i := 0) o2 rfl
      have b1 := cell_obj (i := 1) o2 rfl
      generalize w.heap.size + 1 = q4 at *
      clear hq
      by_cases hg : a = b ∧ (n : Int) ≤ most
      · obtain ⟨rfl, hm⟩ := hg
        have hm' : ¬ most < (n : Int) := by omega
        have hR := HR.out
        rw [if_pos ⟨Hab.out.1 rfl, by rw [← Hn.out]; exact hm⟩, ← Hn.out] at hR
        have HR2 := Lib.hid hR; clear hR
        go_wp2_with (first | (with_reducible refine stop_append ?_) | (with_reducible refine stop_copy ?_) | (with_reducible refine stop_make ?_) | (with_reducible refine stop_lookup ?_) | (with_reducible refine stop_update ?_) | (with_reducible refine stop_slice ?_) | (with_reducible refine stop_range ?_) | (with_reducible refine stop_next ?_) | (with_reducible refine stop_convert ⟨_, rfl⟩ ?_) | (with_reducible refine stop_convertB ⟨_, _, _, rfl⟩ ?_) | (with_reducible refine stop_eqSlice ⟨_, _, rfl⟩ ?_))
        refine bodyPost_ret (v := .tuple #[.agg #[.string s', .int .i64 0], .int .i64 n]) (by simp [results, Try.results58, go_sem, *]) rfl ?_
        exact ⟨by rw [HR2.out]; rfl, (((hc0.trans hc3).setCell (.inr hge) _).setCell (.inr hge) _)⟩
      · have hR := HR.out
        rw [if_neg (fun h => hg ⟨Hab.out.2 h.1, by rw [Hn.out]; exact h.2⟩)] at hR
        have HR2 := Lib.hid hR; clear hR
        rcases (show ((a.toList == b.toList) = false) ∨ (a = b ∧ most < (n : Int)) from by
          by_cases h : a = b
          · exact .inr ⟨h, by have : ¬ (n : Int) ≤ most := fun h' => hg ⟨h, h'⟩; omega⟩
          · exact .inl (tl_ne h)) with h | ⟨rfl, h⟩
        all_goals
          clear hg
          go_wp2_with (first | (with_reducible refine stop_append ?_) | (with_reducible refine stop_copy ?_) | (with_reducible refine stop_make ?_) | (with_reducible refine stop_lookup ?_) | (with_reducible refine stop_update ?_) | (with_reducible refine stop_slice ?_) | (with_reducible refine stop_range ?_) | (with_reducible refine stop_next ?_) | (with_reducible refine stop_convert ⟨_, rfl⟩ ?_) | (with_reducible refine stop_convertB ⟨_, _, _, rfl⟩ ?_) | (with_reducible refine stop_eqSlice ⟨_, _, rfl⟩ ?_))
          refine (reffailed_any _ _ _ _).mono ?_
          rintro e w4 ⟨rfl, hc4⟩
          have o5 := hc4.obj o4 (not_no _)
          clear f4 f5 c4 c5 o4
          have f4 := free_obj (i := 0) o5
          have f5 := free_obj (i := 1) o5
          have c4 := cell_obj (i := 0) o5 rfl
          have c5 := cell_obj (i := 1) o5 rfl
          simp only [rdrV, failE, if_true]
          go_wp2_with (first | (with_reducible refine stop_append ?_) | (with_reducible refine stop_copy ?_) | (with_reducible refine stop_make ?_) | (with_reducible refine stop_lookup ?_) | (with_reducible refine stop_update ?_) | (with_reducible refine stop_slice ?_) | (with_reducible refine stop_range ?_) | (with_reducible refine stop_next ?_) | (with_reducible refine stop_convert ⟨_, rfl⟩ ?_) | (with_reducible refine stop_convertB ⟨_, _, _, rfl⟩ ?_) | (with_reducible refine stop_eqSlice ⟨_, _, rfl⟩ ?_))
          refine bodyPost_ret (v := .tuple #[.agg #[.string s', .int .i64 21], .int .i64 0]) (by simp [results, Try.results58, go_sem, *]) rfl ?_
          exact ⟨by rw [HR2.out]; rfl, ((((hc0.trans hc3).trans hc4).setCell (.inr hge) _).setCell (.inr hge) _)⟩
    | succ i =>
      obtain rfl : x = i := by omega
      have hi : i < s.size := by omega
      have hv : valL (tl.drop (i + 1)) < 72057594037927936 := by
        rw [Htl.out]
        exact Nat.lt_of_lt_of_le (valL_lt _) (Nat.le_trans (Nat.pow_le_pow_right (by omega) (show _ ≤ 8 by rw [List.length_drop, List.length_take]; omega)) (by decide))
      have hv2 := valL_step s k i (by omega) hi
      rw [← Htl.out] at hv2
      have Hv := Lib.hid hv2
      clear hv2 hv0
      generalize valL (tl.drop (i + 1)) = n at *
      have hb := s[i].toNat_lt
      clear hx hl c
      go_wp2_with (first | (with_reducible refine stop_append ?_) | (with_reducible refine stop_copy ?_) | (with_reducible refine stop_make ?_) | (with_reducible refine stop_lookup ?_) | (with_reducible refine stop_update ?_) | (with_reducible refine stop_slice ?_) | (with_reducible refine stop_range ?_) | (with_reducible refine stop_next ?_) | (with_reducible refine stop_convert ⟨_, rfl⟩ ?_) | (with_reducible refine stop_convertB ⟨_, _, _, rfl⟩ ?_) | (with_reducible refine stop_eqSlice ⟨_, _, rfl⟩ ?_))
      go_round
      case rel => exact ⟨i, i - 1, by omega, rfl, rfl, by rw [Hv.out]; simp⟩
      case measure => simp [intOf] <;> omega
theorem refreadnum_any (s : ByteArray) (e most : Int) (w : World) : Calls Try.prog 58 #[rdrV s e, .int .i64 most] w (RN most s e w) := by
  by_cases he : e = 0
  · subst he
    rcases lastI_cases s with h | ⟨k, h1, h2, h3⟩
    · exact refreadnum_short s most w h
    · exact refreadnum_main s most w k h1 h2 h3
  · exact refreadnum_err s e most w he
end Go.Proofs.Ytlpnbbjmcmjkpaa

/- Walks of the document's vector: Set, have, Quorum. -/
import Derived.Test.YtlpnbbjmcmjkpaaRefM
import Derived.Test.YtlpnbbjmcmjkpaaVecW
set_option linter.unusedVariables false
set_option linter.unusedSimpArgs false
namespace Go.Proofs.Ytlpnbbjmcmjkpaa
open Go.RowKit Cb

set_option maxRecDepth 100000 in
set_option maxHeartbeats 1000000 in
theorem rset_any (F : Nat → Prop) (v : Value) (xs : List Int) (k n : Int) (w : World) (hs : Sl F w v xs) (hl : xs.length * 8 ≤ 140737488355328) :
    Calls Try.prog 23 #[v, .int .i64 k, .int .i64 n] w (PairPost (setF xs k n) w) := by
  have Hr := Lib.hid (rright_any F v xs w hs hl)
  have Hs := Lib.hid (fun W (hW : Chg No w W) => (Sl.up' hs).keepNo hW)
  obtain ⟨A, c, rfl⟩ := hs.slice
  clear hs
  have hcase : (vright xs = false ∧ setF xs k n = none) ∨ (vright xs = true ∧ k < 0 ∧ setF xs k n = none) ∨ (vright xs = true ∧ ¬ k < 0 ∧ (xs.length : Int) ≤ k ∧ setF xs k n = none) ∨
      (vright xs = true ∧ ¬ k < 0 ∧ ¬ (xs.length : Int) ≤ k ∧ n < 0 ∧ setF xs k n = none) ∨ (vright xs = true ∧ ¬ k < 0 ∧ ¬ (xs.length : Int) ≤ k ∧ ¬ n < 0 ∧ 1099511627776 < n ∧ setF xs k n = none) ∨
      (vright xs = true ∧ ¬ k < 0 ∧ ¬ (xs.length : Int) ≤ k ∧ ¬ n < 0 ∧ ¬ 1099511627776 < n ∧ setF xs k n = some (xs.set k.toNat (max (xs.getD k.toNat 0) n))) := by
    unfold setF
    cases vright xs
    · simp
    · by_cases h1 : k < 0
      · simp [h1]; try omega
      · by_cases h2 : (xs.length : Int) ≤ k
        · simp [h1, h2]; omega
        · by_cases h3 : n < 0
          · simp [h1, h2, h3, mayB]; omega
          · by_cases h4 : 1099511627776 < n
            · simp [h1, h2, h3, h4, mayB]; try omega
            · right; right; right; right; right
              exact ⟨rfl, h1, h2, h3, h4, by rw [if_pos ⟨rfl, ⟨by omega, by omega⟩, may_iff.2 ⟨by omega, by omega⟩⟩]⟩
  rcases hcase with ⟨hr, hf⟩ | ⟨hr, h1, hf⟩ | ⟨hr, h1, h2, hf⟩ | ⟨hr, h1, h2, h3, hf⟩ | ⟨hr, h1, h2, h3, h4, hf⟩ | ⟨hr, h1, h2, h3, h4, hf⟩
  iterate 5
    · rw [hr] at Hr
      have Hf := Lib.hid hf
      clear hr hf
      go_enter Try.func23, Try.ntmps23
      go_wp2_with (first | (with_reducible refine stop_append ?_) | (with_reducible refine stop_copy ?_) | (with_reducible refine stop_make ?_) | (with_reducible refine stop_lookup ?_) | (with_reducible refine stop_update ?_) | (with_reducible refine stop_slice ?_) | (with_reducible refine stop_range ?_) | (with_reducible refine stop_next ?_) | (with_reducible refine stop_convert ⟨_, rfl⟩ ?_) | (with_reducible refine stop_convertB ⟨_, _, _, rfl⟩ ?_) | (with_reducible refine stop_eqSlice ⟨_, _, rfl⟩ ?_))
      refine Hr.out.mono ?_
      rintro e w1 ⟨rfl, hc1⟩
      go_wp2_with (first | (with_reducible refine stop_append ?_) | (with_reducible refine stop_copy ?_) | (with_reducible refine stop_make ?_) | (with_reducible refine stop_lookup ?_) | (with_reducible refine stop_update ?_) | (with_reducible refine stop_slice ?_) | (with_reducible refine stop_range ?_) | (with_reducible refine stop_next ?_) | (with_reducible refine stop_convert ⟨_, rfl⟩ ?_) | (with_reducible refine stop_convertB ⟨_, _, _, rfl⟩ ?_) | (with_reducible refine stop_eqSlice ⟨_, _, rfl⟩ ?_))
      go_ret2
      exact ⟨hc1, .inr ⟨Hf.out, rfl⟩⟩
  · rw [hr] at Hr
    have h8 := (vright_iff.1 hr).2.1
    obtain ⟨j, rfl⟩ : ∃ j : Nat, k = j := ⟨k.toNat, by omega⟩
    have hj : j < xs.length := by omega
    rw [Int.toNat_natCast] at hf
    have Hf := Lib.hid hf
    have hzl : (xs.set j (max (xs.getD j 0) n)).length = xs.length := by simp
    have hzk : ∀ i (h : i < xs.length), (xs.set j (max (xs.getD j 0) n)).take (i + 1) = (xs.set j (max (xs.getD j 0) n)).take i ++ [if i = j ∧ xs[i] < n then n else xs[i]] := fun i h => by
      rw [List.take_succ_eq_append_getElem (by rw [hzl]; exact h), List.getElem_set]
      congr 2
      by_cases e : j = i
      · subst e
        rw [if_pos rfl, List.getD_eq_getElem?_getD, List.getElem?_eq_getElem hj]
        simp only [Option.getD_some, true_and]
        split <;> omega
      · rw [if_neg e, if_neg (fun h => e h.1.symm)]
    have Hzk := Lib.hid hzk
    have Hzl := Lib.hid hzl
    clear hr hf hzk hzl
    generalize xs.set j (max (xs.getD j 0) n) = z at *
    go_enter Try.func23, Try.ntmps23
    go_wp2_with (first | (with_reducible refine stop_append ?_) | (with_reducible refine stop_copy ?_) | (with_reducible refine stop_make ?_) | (with_reducible refine stop_lookup ?_) | (with_reducible refine stop_update ?_) | (with_reducible refine stop_slice ?_) | (with_reducible refine stop_range ?_) | (with_reducible refine stop_next ?_) | (with_reducible refine stop_convert ⟨_, rfl⟩ ?_) | (with_reducible refine stop_convertB ⟨_, _, _, rfl⟩ ?_) | (with_reducible refine stop_eqSlice ⟨_, _, rfl⟩ ?_))
    refine Hr.out.mono ?_
    rintro e w1 ⟨rfl, hc1⟩
    go_wp2_with (first | (with_reducible refine stop_append ?_) | (with_reducible refine stop_copy ?_) | (with_reducible refine stop_make ?_) | (with_reducible refine stop_lookup ?_) | (with_reducible refine stop_update ?_) | (with_reducible refine stop_slice ?_) | (with_reducible refine stop_range ?_) | (with_reducible refine stop_next ?_) | (with_reducible refine stop_convert ⟨_, rfl⟩ ?_) | (with_reducible refine stop_convertB ⟨_, _, _, rfl⟩ ?_) | (with_reducible refine stop_eqSlice ⟨_, _, rfl⟩ ?_))
    simp only [show decide ((j : Int) < 0) = false by simp, show decide ((xs.length : Int) ≤ (j : Int)) = false by simp; omega, show decide (xs.length ≤ j) = false by simp; omega, show decide (n < 0) = false by simp; omega, show decide (1099511627776 < n) = false by simp; omega, Bool.or_self, Bool.or_false, Bool.false_or]
    go_loopw [8, 9] (fun v8 v9 wr => ∃ i : Nat, i ≤ xs.length ∧ v9 = .int .i64 i ∧ Chg No w wr ∧ Cb.Own No wr w.heap.size 3 v8 (z.take i)) (fun _ v9 _ => xs.length - (intOf v9).toNat)
    case atStart => exact ⟨0, by omega, rfl, hc1, Cb.Own.nil _ _ _ _⟩
    case round =>
      obtain ⟨i, hi, rfl, hc, hown⟩ := hrel
      by_cases hlt : i < xs.length
      · obtain ⟨b, o, rfl, _, hbl, a0⟩ := num_in (Hs.out _ hc) i hlt
        have hsn := Hzk.out i hlt
        have hacc : (z.take i).length = i := by have := Hzl.out; rw [List.length_take]; omega
        generalize xs[i] = x at *
        generalize z.take i = acc at *
        have Hown := Lib.hid hown
        have Hacc := Lib.hid hacc
        obtain ⟨A6, c6, rfl⟩ := hown.slice
        clear hown hacc
        have hcase : (i = j ∧ x < n ∧ (if i = j ∧ x < n then n else x) = n) ∨ (i = j ∧ ¬ x < n ∧ (if i = j ∧ x < n then n else x) = x) ∨ (i ≠ j ∧ (if i = j ∧ x < n then n else x) = x) := by
          by_cases e1 : i = j <;> by_cases e2 : x < n <;> simp [e1, e2]
        rcases hcase with ⟨rfl, e2, e⟩ | ⟨rfl, e2, e⟩ | ⟨e1, e⟩
        iterate 2
          · rw [e] at hsn
            have Hsn := Lib.hid hsn
            clear e hsn
            go_wp2_with (first | (with_reducible refine stop_append ?_) | (with_reducible refine stop_copy ?_) | (with_reducible refine stop_make ?_) | (with_reducible refine stop_lookup ?_) | (with_reducible refine stop_update ?_) | (with_reducible refine stop_slice ?_) | (with_reducible refine stop_range ?_) | (with_reducible refine stop_next ?_) | (with_reducible refine stop_convert ⟨_, rfl⟩ ?_) | (with_reducible refine stop_convertB ⟨_, _, _, rfl⟩ ?_) | (with_reducible refine stop_eqSlice ⟨_, _, rfl⟩ ?_))
            refine step_append_flat (α := Int) (ys := [_]) Try.underlying24 vinfo_int rfl (Hown.out.alloc _) rfl rfl (Sl.lit1 (F := No) (y := _) rfl rfl (not_no _)) (by rw [Hacc.out]; simp; omega) (by rw [Hacc.out]; simp; omega) (by have := hc.size; simp; omega) ?_
            intro v9 w9 hown9 hg9
            have hc9 : Chg No w w9 := (hc.alloc _).grew hg9 (fun i hi => .inr (Hown.out.lt i hi).1)
            rw [← Hsn.out] at hown9
            have Hown9 := Lib.hid hown9
            clear hown9 hg9
            go_wp2_with (first | (with_reducible refine stop_append ?_) | (with_reducible refine stop_copy ?_) | (with_reducible refine stop_make ?_) | (with_reducible refine stop_lookup ?_) | (with_reducible refine stop_update ?_) | (with_reducible refine stop_slice ?_) | (with_reducible refine stop_range ?_) | (with_reducible refine stop_next ?_) | (with_reducible refine stop_convert ⟨_, rfl⟩ ?_) | (with_reducible refine stop_convertB ⟨_, _, _, rfl⟩ ?_) | (with_reducible refine stop_eqSlice ⟨_, _, rfl⟩ ?_))
            go_roundw
            case rel => exact ⟨i + 1, by omega, by go_num, hc9, Hown9.out⟩
            case measure => simp [intOf]; omega
        · rw [e] at hsn
          have Hsn := Lib.hid hsn
          have q1 : (i == j) = false := by simpa using e1
          have q2 : ((i : Int) == (j : Int)) = false := by simp; omega
          clear e hsn
          go_wp2_with (first | (with_reducible refine stop_append ?_) | (with_reducible refine stop_copy ?_) | (with_reducible refine stop_make ?_) | (with_reducible refine stop_lookup ?_) | (with_reducible refine stop_update ?_) | (with_reducible refine stop_slice ?_) | (with_reducible refine stop_range ?_) | (with_reducible refine stop_next ?_) | (with_reducible refine stop_convert ⟨_, rfl⟩ ?_) | (with_reducible refine stop_convertB ⟨_, _, _, rfl⟩ ?_) | (with_reducible refine stop_eqSlice ⟨_, _, rfl⟩ ?_))
          refine step_append_flat (α := Int) (ys := [_]) Try.underlying24 vinfo_int rfl (Hown.out.alloc _) rfl rfl (Sl.lit1 (F := No) (y := _) rfl rfl (not_no _)) (by rw [Hacc.out]; simp; omega) (by rw [Hacc.out]; simp; omega) (by have := hc.size; simp; omega) ?_
          intro v9 w9 hown9 hg9
          have hc9 : Chg No w w9 := (hc.alloc _).grew hg9 (fun i hi => .inr (Hown.out.lt i hi).1)
          rw [← Hsn.out] at hown9
          have Hown9 := Lib.hid hown9
          clear hown9 hg9 q1 q2 e1
          go_wp2_with (first | (with_reducible refine stop_append ?_) | (with_reducible refine stop_copy ?_) | (with_reducible refine stop_make ?_) | (with_reducible refine stop_lookup ?_) | (with_reducible refine stop_update ?_) | (with_reducible refine stop_slice ?_) | (with_reducible refine stop_range ?_) | (with_reducible refine stop_next ?_) | (with_reducible refine stop_convert ⟨_, rfl⟩ ?_) | (with_reducible refine stop_convertB ⟨_, _, _, rfl⟩ ?_) | (with_reducible refine stop_eqSlice ⟨_, _, rfl⟩ ?_))
          go_roundw
          case rel => exact ⟨i + 1, by omega, by go_num, hc9, Hown9.out⟩
          case measure => simp [intOf]; omega
      · obtain rfl : i = xs.length := by omega
        rw [List.take_of_length_le (by have := Hzl.out; omega)] at hown
        obtain ⟨A6, c6, e6⟩ := hown.slice
        subst e6
        have Hown := Lib.hid hown
        clear hown
        go_wp2_with (first | (with_reducible refine stop_append ?_) | (with_reducible refine stop_copy ?_) | (with_reducible refine stop_make ?_) | (with_reducible refine stop_lookup ?_) | (with_reducible refine stop_update ?_) | (with_reducible refine stop_slice ?_) | (with_reducible refine stop_range ?_) | (with_reducible refine stop_next ?_) | (with_reducible refine stop_convert ⟨_, rfl⟩ ?_) | (with_reducible refine stop_convertB ⟨_, _, _, rfl⟩ ?_) | (with_reducible refine stop_eqSlice ⟨_, _, rfl⟩ ?_))
        go_ret2
        exact ⟨hc, .inl ⟨_, Hf.out, _, rfl, Hown.out.slFlat (G := Lt w.heap.size) (fun i hi f => by have := (Hown.out.lt i hi).1; simp only [Lt] at f; omega)⟩⟩
set_option maxRecDepth 100000 in
set_option maxHeartbeats 1000000 in
theorem rhave_any (F : Nat → Prop) (v : Value) (l : List (List Int)) (k : Nat) (n : Int) (w : World) (hs : Sl F w v l) (hll : l.length ≤ 1000000) (hk : ∀ x ∈ l, k < x.length) :
    Calls Try.prog 43 #[v, .int .i64 k, .int .i64 n] w fun e w' => e = .returned (.int .i64 (cntF (column l k) n)) ∧ Chg No w w' := by
  have Hs := Lib.hid hs
  have Hk := Lib.hid hk
  obtain ⟨A, c, rfl⟩ := hs.slice
  clear hs hk
  have Hcn := Lib.hid (show ∀ i (h : i < l.length), cntF (column (l.take (i + 1)) k) n = cntF (column (l.take i) k) n + if n ≤ l[i].getD k 0 then 1 else 0 from fun i h => by
    rw [List.take_succ_eq_append_getElem h]
    simp only [column, List.map_append, cntF, List.countP_append, List.map_cons, List.map_nil, List.countP_singleton]
    simp)
  have Hle := Lib.hid (show ∀ i, cntF (column (l.take i) k) n ≤ l.length from fun i => by
    refine Nat.le_trans List.countP_le_length ?_
    simp [column, List.length_take]; omega)
  go_enter Try.func43, Try.ntmps43
  go_wp2_with (first | (with_reducible refine stop_append ?_) | (with_reducible refine stop_copy ?_) | (with_reducible refine stop_make ?_) | (with_reducible refine stop_lookup ?_) | (with_reducible refine stop_update ?_) | (with_reducible refine stop_slice ?_) | (with_reducible refine stop_range ?_) | (with_reducible refine stop_next ?_) | (with_reducible refine stop_convert ⟨_, rfl⟩ ?_) | (with_reducible refine stop_convertB ⟨_, _, _, rfl⟩ ?_) | (with_reducible refine stop_eqSlice ⟨_, _, rfl⟩ ?_))
  go_loopw [7, 8] (fun v7 v8 wr => ∃ i : Nat, i ≤ l.length ∧ v8 = .int .i64 i ∧ v7 = .int .i64 (cntF (column (l.take i) k) n) ∧ Chg No w wr) (fun _ v8 _ => l.length - (intOf v8).toNat)
  case atStart => exact ⟨0, by omega, rfl, by simp [column, cntF], Chg.refl _ _⟩
  case round =>
    obtain ⟨i, hi, rfl, rfl, hc⟩ := hrel
    by_cases hlt : i < l.length
    · obtain ⟨b, o, u, rfl, _, hbl, ha0, hu⟩ := rows_get (Hs.out.keepNo hc) i hlt
      have hkl := Hk.out _ (List.getElem_mem hlt)
      obtain ⟨b2, o2, cu, rfl, _, hbl2, hb0⟩ := num_at hu k hkl
      have hcn := Hcn.out i hlt
      have hle := Hle.out i
      clear hu
      generalize l[i] = row at *
      generalize row.getD k 0 = x at *
      have hkr : (k : Int) < row.length := by omega
      have hwr : IntKind.i64.wrap ((cntF (column (l.take i) k) n : Int) + 1) = (cntF (column (l.take i) k) n : Int) + 1 := IntWalk.i64_in _ (by omega)
      generalize cntF (column (l.take i) k) n = m at *
      by_cases hx : n ≤ x
      · rw [if_pos hx] at hcn
        have Hcn2 := Lib.hid hcn
        clear hcn
        go_wp2_with (first | (with_reducible refine stop_append ?_) | (with_reducible refine stop_copy ?_) | (with_reducible refine stop_make ?_) | (with_reducible refine stop_lookup ?_) | (with_reducible refine stop_update ?_) | (with_reducible refine stop_slice ?_) | (with_reducible refine stop_range ?_) | (with_reducible refine stop_next ?_) | (with_reducible refine stop_convert ⟨_, rfl⟩ ?_) | (with_reducible refine stop_convertB ⟨_, _, _, rfl⟩ ?_) | (with_reducible refine stop_eqSlice ⟨_, _, rfl⟩ ?_))
        go_roundw
        case rel => exact ⟨i + 1, by omega, by go_num, by rw [Hcn2.out]; go_num, hc⟩
        case measure => simp [intOf]; omega
      · rw [if_neg hx] at hcn
        have Hcn2 := Lib.hid hcn
        clear hcn
        go_wp2_with (first | (with_reducible refine stop_append ?_) | (with_reducible refine stop_copy ?_) | (with_reducible refine stop_make ?_) | (with_reducible refine stop_lookup ?_) | (with_reducible refine stop_update ?_) | (with_reducible refine stop_slice ?_) | (with_reducible refine stop_range ?_) | (with_reducible refine stop_next ?_) | (with_reducible refine stop_convert ⟨_, rfl⟩ ?_) | (with_reducible refine stop_convertB ⟨_, _, _, rfl⟩ ?_) | (with_reducible refine stop_eqSlice ⟨_, _, rfl⟩ ?_))
        go_roundw
        case rel => exact ⟨i + 1, by omega, by go_num, by rw [Hcn2.out]; rfl, hc⟩
        case measure => simp [intOf]; omega
    · obtain rfl : i = l.length := by omega
      rw [List.take_length]
      go_wp2_with (first | (with_reducible refine stop_append ?_) | (with_reducible refine stop_copy ?_) | (with_reducible refine stop_make ?_) | (with_reducible refine stop_lookup ?_) | (with_reducible refine stop_update ?_) | (with_reducible refine stop_slice ?_) | (with_reducible refine stop_range ?_) | (with_reducible refine stop_next ?_) | (with_reducible refine stop_convert ⟨_, rfl⟩ ?_) | (with_reducible refine stop_convertB ⟨_, _, _, rfl⟩ ?_) | (with_reducible refine stop_eqSlice ⟨_, _, rfl⟩ ?_))
      go_ret
      exact ⟨rfl, hc⟩
end Go.Proofs.Ytlpnbbjmcmjkpaa

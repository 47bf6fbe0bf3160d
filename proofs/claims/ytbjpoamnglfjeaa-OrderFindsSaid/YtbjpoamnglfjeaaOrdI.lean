/- The statement OrderKeeps, walked. -/
import Derived.Test.YtbjpoamnglfjeaaOrdH
set_option linter.unusedVariables false
set_option linter.unusedSimpArgs false
namespace Go.Proofs.Ytbjpoamnglfjeaa
open Go.RowKit Cb

theorem runs_pre (o : OSt) (l : List Ent) (n : Nat) : rowF (ofF o (l.take n)).1 <+: rowF (ofF o l).1 := by
  have h : (ofF o (l.take n)).1.runs <+: (ofF o l).1.runs := by
    rcases Nat.lt_or_ge (ofF o (l.take n)).2 (l.take n).length with h | h
    · have := of_app_le (r := l.drop n) h
      rw [List.take_append_drop] at this
      rw [this]; exact List.prefix_refl _
    · have h2 : (ofF o (l.take n)).2 = (l.take n).length := Nat.le_antisymm (of_le _ _) h
      have := of_append (r := l.drop n) h2
      rw [List.take_append_drop] at this
      rw [this]
      exact (of_ext _ _).1
  obtain ⟨t, ht⟩ := h
  simp only [rowF, ← ht, List.flatMap_append]
  exact List.prefix_append _ _
theorem steps_head {a b : List Int} {x : Int × Int} {r : List (Int × Int)} (h : Cb.Steps a (x :: r) b) : ∃ (s : Nat) (hs : s < a.length), x = ((s : Int), a[s]) ∧ Cb.Steps (a.set s (a[s] + 1)) r b := by
  cases h with
  | cons s hs h => exact ⟨s, hs, rfl, h⟩
theorem info_rent : Info Try.prog 52 (.agg #[.int .i64 0, .int .i64 0, .slice none 0 0, .int .i64 0, .int .i64 0, .int .i64 0]) 6 64 := by unfold Info; kernel_rfl
set_option maxRecDepth 100000 in
set_option maxHeartbeats 1000000 in
theorem ordkeeps_any (n : Int) (v : Value) (l : List Ent) (k : Int) (w : World) (h : Sl No w v l) (hl : l.length * 64 ≤ 140737488355328) (hcb : cutsB l) :
    Calls Try.prog 4 #[.int .i64 n, v, .int .i64 k] w fun e w' => e = .returned (.bool true) ∧ Chg No w w' := by
  have Hfew := Lib.hid (fewe_any No v l w h hl hcb)
  have H := Lib.hid (fun W (hW : Chg No w W) => h.keepNo hW)
  obtain ⟨A, c, rfl⟩ := h.slice
  have Hmine := Lib.hid (fun W (hW : Chg No w W) => mine_any _ l W (H.out W hW) hl)
  have Hcb := Lib.hid hcb
  clear h hcb
  have hcase : fewE l = false ∨ (fewE l = true ∧ k < 0) ∨ (fewE l = true ∧ 0 ≤ k ∧ (l.length : Int) < k) ∨ (fewE l = true ∧ 0 ≤ k ∧ k ≤ l.length) := by
    cases fewE l <;> simp <;> omega
  rcases hcase with hf | ⟨hf, hk⟩ | ⟨hf, hk, hk2⟩ | ⟨hf, hk, hk2⟩
  · rw [hf] at Hfew
    clear hf
    go_enter Try.func4, Try.ntmps4
    go_wp2_with (first | (with_reducible refine stop_append ?_) | (with_reducible refine stop_copy ?_) | (with_reducible refine stop_make ?_) | (with_reducible refine stop_lookup ?_) | (with_reducible refine stop_update ?_) | (with_reducible refine stop_slice ?_) | (with_reducible refine stop_range ?_) | (with_reducible refine stop_next ?_) | (with_reducible refine stop_convert ⟨_, rfl⟩ ?_) | (with_reducible refine stop_convertB ⟨_, _, _, rfl⟩ ?_) | (with_reducible refine stop_eqSlice ⟨_, _, rfl⟩ ?_))
    refine Hfew.out.mono ?_
    rintro e w1 ⟨rfl, hc1⟩
    go_wp2_with (first | (with_reducible refine stop_append ?_) | (with_reducible refine stop_copy ?_) | (with_reducible refine stop_make ?_) | (with_reducible refine stop_lookup ?_) | (with_reducible refine stop_update ?_) | (with_reducible refine stop_slice ?_) | (with_reducible refine stop_range ?_) | (with_reducible refine stop_next ?_) | (with_reducible refine stop_convert ⟨_, rfl⟩ ?_) | (with_reducible refine stop_convertB ⟨_, _, _, rfl⟩ ?_) | (with_reducible refine stop_eqSlice ⟨_, _, rfl⟩ ?_))
    refine (oalive_any _).mono ?_
    rintro e w2 ⟨rfl, hc2⟩
    go_wp2_with (first | (with_reducible refine stop_append ?_) | (with_reducible refine stop_copy ?_) | (with_reducible refine stop_make ?_) | (with_reducible refine stop_lookup ?_) | (with_reducible refine stop_update ?_) | (with_reducible refine stop_slice ?_) | (with_reducible refine stop_range ?_) | (with_reducible refine stop_next ?_) | (with_reducible refine stop_convert ⟨_, rfl⟩ ?_) | (with_reducible refine stop_convertB ⟨_, _, _, rfl⟩ ?_) | (with_reducible refine stop_eqSlice ⟨_, _, rfl⟩ ?_))
    go_ret
    exact ⟨rfl, hc1.trans hc2⟩
  · rw [hf] at Hfew
    clear hf
    go_enter Try.func4, Try.ntmps4
    go_wp2_with (first | (with_reducible refine stop_append ?_) | (with_reducible refine stop_copy ?_) | (with_reducible refine stop_make ?_) | (with_reducible refine stop_lookup ?_) | (with_reducible refine stop_update ?_) | (with_reducible refine stop_slice ?_) | (with_reducible refine stop_range ?_) | (with_reducible refine stop_next ?_) | (with_reducible refine stop_convert ⟨_, rfl⟩ ?_) | (with_reducible refine stop_convertB ⟨_, _, _, rfl⟩ ?_) | (with_reducible refine stop_eqSlice ⟨_, _, rfl⟩ ?_))
    refine Hfew.out.mono ?_
    rintro e w1 ⟨rfl, hc1⟩
    go_wp2_with (first | (with_reducible refine stop_append ?_) | (with_reducible refine stop_copy ?_) | (with_reducible refine stop_make ?_) | (with_reducible refine stop_lookup ?_) | (with_reducible refine stop_update ?_) | (with_reducible refine stop_slice ?_) | (with_reducible refine stop_range ?_) | (with_reducible refine stop_next ?_) | (with_reducible refine stop_convert ⟨_, rfl⟩ ?_) | (with_reducible refine stop_convertB ⟨_, _, _, rfl⟩ ?_) | (with_reducible refine stop_eqSlice ⟨_, _, rfl⟩ ?_))
    refine (oalive_any _).mono ?_
    rintro e w2 ⟨rfl, hc2⟩
    go_wp2_with (first | (with_reducible refine stop_append ?_) | (with_reducible refine stop_copy ?_) | (with_reducible refine stop_make ?_) | (with_reducible refine stop_lookup ?_) | (with_reducible refine stop_update ?_) | (with_reducible refine stop_slice ?_) | (with_reducible refine stop_range ?_) | (with_reducible refine stop_next ?_) | (with_reducible refine stop_convert ⟨_, rfl⟩ ?_) | (with_reducible refine stop_convertB ⟨_, _, _, rfl⟩ ?_) | (with_reducible refine stop_eqSlice ⟨_, _, rfl⟩ ?_))
    go_ret
    exact ⟨rfl, hc1.trans hc2⟩
  · rw [hf] at Hfew
    clear hf
    go_enter Try.func4, Try.ntmps4
    go_wp2_with (first | (with_reducible refine stop_append ?_) | (with_reducible refine stop_copy ?_) | (with_reducible refine stop_make ?_) | (with_reducible refine stop_lookup ?_) | (with_reducible refine stop_update ?_) | (with_reducible refine stop_slice ?_) | (with_reducible refine stop_range ?_) | (with_reducible refine stop_next ?_) | (with_reducible refine stop_convert ⟨_, rfl⟩ ?_) | (with_reducible refine stop_convertB ⟨_, _, _, rfl⟩ ?_) | (with_reducible refine stop_eqSlice ⟨_, _, rfl⟩ ?_))
    refine Hfew.out.mono ?_
    rintro e w1 ⟨rfl, hc1⟩
    go_wp2_with (first | (with_reducible refine stop_append ?_) | (with_reducible refine stop_copy ?_) | (with_reducible refine stop_make ?_) | (with_reducible refine stop_lookup ?_) | (with_reducible refine stop_update ?_) | (with_reducible refine stop_slice ?_) | (with_reducible refine stop_range ?_) | (with_reducible refine stop_next ?_) | (with_reducible refine stop_convert ⟨_, rfl⟩ ?_) | (with_reducible refine stop_convertB ⟨_, _, _, rfl⟩ ?_) | (with_reducible refine stop_eqSlice ⟨_, _, rfl⟩ ?_))
    refine (oalive_any _).mono ?_
    rintro e w2 ⟨rfl, hc2⟩
    go_wp2_with (first | (with_reducible refine stop_append ?_) | (with_reducible refine stop_copy ?_) | (with_reducible refine stop_make ?_) | (with_reducible refine stop_lookup ?_) | (with_reducible refine stop_update ?_) | (with_reducible refine stop_slice ?_) | (with_reducible refine stop_range ?_) | (with_reducible refine stop_next ?_) | (with_reducible refine stop_convert ⟨_, rfl⟩ ?_) | (with_reducible refine stop_convertB ⟨_, _, _, rfl⟩ ?_) | (with_reducible refine stop_eqSlice ⟨_, _, rfl⟩ ?_))
    go_ret
    exact ⟨rfl, hc1.trans hc2⟩
  · rw [hf] at Hfew
    clear hf
    obtain ⟨k, rfl⟩ : ∃ j : Nat, k = j := ⟨k.toNat, by omega⟩
    have hkl : k ≤ l.length := by omega
    have htl : (l.take k).length = k := by simp; omega
    have Hcbk := Lib.hid (show cutsB (l.take k) from fun e he => Hcb.out e (List.mem_of_mem_take he))
    by_cases hn : 1 ≤ n ∧ n ≤ 8
    · obtain ⟨m, rfl⟩ : ∃ m : Nat, n = m := ⟨n.toNat, by omega⟩
      have h1 : 1 ≤ m := by omega
      have h8 : m ≤ 8 := by omega
      have hofa := fun W v' (hs : Sl No W v' (l.take k)) => oof_yes m v' (l.take k) W h1 h8 hs (by rw [htl]; omega) Hcbk.out
      have hofb := fun W v' (hs : Sl No W v' l) => oof_yes m v' l W h1 h8 hs hl Hcb.out
      have hIa := inv_of (inv_new m h1 h8) (l.take k)
      have hIb := inv_of (inv_new m h1 h8) l
      have hpre := runs_pre (newF m) l k
      generalize ofF (newF m) (l.take k) = ra at *
      generalize ofF (newF m) l = rb at *
      obtain ⟨sa, na⟩ := ra
      obtain ⟨sb, nb⟩ := rb
      simp only at *
      have hra : (rowF sa).length ≤ 1000000 := by
        have h3 := hIa.rowLen
        have h4 := hIa.tot
        rw [hIa.olen] at h3
        omega
      have hrb : (rowF sb).length ≤ 1000000 := by
        have h3 := hIb.rowLen
        have h4 := hIb.tot
        rw [hIb.olen] at h3
        omega
      have hple := hpre.length_le
      have Hpre := Lib.hid hpre
      have HIa := Lib.hid hIa
      have HIb := Lib.hid hIb
      have Hofa := Lib.hid hofa
      have Hofb := Lib.hid hofb
      clear hn hIa hIb hpre hofa hofb
      go_enter Try.func4, Try.ntmps4
      go_wp2_with (first | (with_reducible refine stop_append ?_) | (with_reducible refine stop_copy ?_) | (with_reducible refine stop_make ?_) | (with_reducible refine stop_lookup ?_) | (with_reducible refine stop_update ?_) | (with_reducible refine stop_slice ?_) | (with_reducible refine stop_range ?_) | (with_reducible refine stop_next ?_) | (with_reducible refine stop_convert ⟨_, rfl⟩ ?_) | (with_reducible refine stop_convertB ⟨_, _, _, rfl⟩ ?_) | (with_reducible refine stop_eqSlice ⟨_, _, rfl⟩ ?_))
      refine Hfew.out.mono ?_
      rintro e w1 ⟨rfl, hc1⟩
      go_wp2_with (first | (with_reducible refine stop_append ?_) | (with_reducible refine stop_copy ?_) | (with_reducible refine stop_make ?_) | (with_reducible refine stop_lookup ?_) | (with_reducible refine stop_update ?_) | (with_reducible refine stop_slice ?_) | (with_reducible refine stop_range ?_) | (with_reducible refine stop_next ?_) | (with_reducible refine stop_convert ⟨_, rfl⟩ ?_) | (with_reducible refine stop_convertB ⟨_, _, _, rfl⟩ ?_) | (with_reducible refine stop_eqSlice ⟨_, _, rfl⟩ ?_))
      refine step_slice (α := Ent) (l := 0) (h := k) Try.underlying22 info_rent (H.out _ hc1) rfl Bound.none (Bound.some rfl) (by omega) hkl ?_
      intro A1 c1 hs1
      simp only [Nat.sub_zero, List.drop_zero] at hs1 ⊢
      have Hs1 := Lib.hid (mine_any _ (l.take k) w1 hs1 (by rw [htl]; omega))
      clear hs1
      go_wp2_with (first | (with_reducible refine stop_append ?_) | (with_reducible refine stop_copy ?_) | (with_reducible refine stop_make ?_) | (with_reducible refine stop_lookup ?_) | (with_reducible refine stop_update ?_) | (with_reducible refine stop_slice ?_) | (with_reducible refine stop_range ?_) | (with_reducible refine stop_next ?_) | (with_reducible refine stop_convert ⟨_, rfl⟩ ?_) | (with_reducible refine stop_convertB ⟨_, _, _, rfl⟩ ?_) | (with_reducible refine stop_eqSlice ⟨_, _, rfl⟩ ?_))
      refine Hs1.out.mono ?_
      rintro e w2 ⟨v2, rfl, hc2, hs2⟩
      obtain ⟨A2, c2, e2⟩ := hs2.slice
      rw [htl] at e2
      subst e2
      have Hs2 := Lib.hid hs2
      clear hs2
      go_wp2_with (first | (with_reducible refine stop_append ?_) | (with_reducible refine stop_copy ?_) | (with_reducible refine stop_make ?_) | (with_reducible refine stop_lookup ?_) | (with_reducible refine stop_update ?_) | (with_reducible refine stop_slice ?_) | (with_reducible refine stop_range ?_) | (with_reducible refine stop_next ?_) | (with_reducible refine stop_convert ⟨_, rfl⟩ ?_) | (with_reducible refine stop_convertB ⟨_, _, _, rfl⟩ ?_) | (with_reducible refine stop_eqSlice ⟨_, _, rfl⟩ ?_))
      refine (Hofa.out _ _ Hs2.out).mono ?_
      rintro e w3 ⟨p, rfl, hc3, ho⟩
      have hc03 := (hc1.trans hc2).trans hc3
      have Hoa := Lib.hid (fun W (hW : Chg No w3 W) => ho.keepNo hW)
      clear ho
      go_wp2_with (first | (with_reducible refine stop_append ?_) | (with_reducible refine stop_copy ?_) | (with_reducible refine stop_make ?_) | (with_reducible refine stop_lookup ?_) | (with_reducible refine stop_update ?_) | (with_reducible refine stop_slice ?_) | (with_reducible refine stop_range ?_) | (with_reducible refine stop_next ?_) | (with_reducible refine stop_convert ⟨_, rfl⟩ ?_) | (with_reducible refine stop_convertB ⟨_, _, _, rfl⟩ ?_) | (with_reducible refine stop_eqSlice ⟨_, _, rfl⟩ ?_))
      refine (Hmine.out _ hc03).mono ?_
      rintro e w4 ⟨v4, rfl, hc4, hs4⟩
      have Hs4 := Lib.hid hs4
      obtain ⟨A4, c4, rfl⟩ := hs4.slice
      clear hs4
      go_wp2_with (first | (with_reducible refine stop_append ?_) | (with_reducible refine stop_copy ?_) | (with_reducible refine stop_make ?_) | (with_reducible refine stop_lookup ?_) | (with_reducible refine stop_update ?_) | (with_reducible refine stop_slice ?_) | (with_reducible refine stop_range ?_) | (with_reducible refine stop_next ?_) | (with_reducible refine stop_convert ⟨_, rfl⟩ ?_) | (with_reducible refine stop_convertB ⟨_, _, _, rfl⟩ ?_) | (with_reducible refine stop_eqSlice ⟨_, _, rfl⟩ ?_))
      refine (Hofb.out _ _ Hs4.out).mono ?_
      rintro e w5 ⟨p2, rfl, hc5, ho⟩
      have hc35 := hc4.trans hc5
      have Hob := Lib.hid (fun W (hW : Chg No w5 W) => ho.keepNo hW)
      clear ho
      go_wp2_with (first | (with_reducible refine stop_append ?_) | (with_reducible refine stop_copy ?_) | (with_reducible refine stop_make ?_) | (with_reducible refine stop_lookup ?_) | (with_reducible refine stop_update ?_) | (with_reducible refine stop_slice ?_) | (with_reducible refine stop_range ?_) | (with_reducible refine stop_next ?_) | (with_reducible refine stop_convert ⟨_, rfl⟩ ?_) | (with_reducible refine stop_convertB ⟨_, _, _, rfl⟩ ?_) | (with_reducible refine stop_eqSlice ⟨_, _, rfl⟩ ?_))
      refine (row_any (Hoa.out _ hc35) HIa.out).mono ?_
      rintro e w6 ⟨v6, rfl, hc6, hs6⟩
      have Hs6 := Lib.hid (hs6.no)
      obtain ⟨A6, c6, rfl⟩ := hs6.slice
      clear hs6
      go_wp2_with (first | (with_reducible refine stop_append ?_) | (with_reducible refine stop_copy ?_) | (with_reducible refine stop_make ?_) | (with_reducible refine stop_lookup ?_) | (with_reducible refine stop_update ?_) | (with_reducible refine stop_slice ?_) | (with_reducible refine stop_range ?_) | (with_reducible refine stop_next ?_) | (with_reducible refine stop_convert ⟨_, rfl⟩ ?_) | (with_reducible refine stop_convertB ⟨_, _, _, rfl⟩ ?_) | (with_reducible refine stop_eqSlice ⟨_, _, rfl⟩ ?_))
      refine (row_any (Hob.out _ hc6) HIb.out).mono ?_
      rintro e w7 ⟨v7, rfl, hc7, hs7⟩
      have Hs7 := Lib.hid (hs7.no)
      have Hs6' := Lib.hid (Hs6.out.keepNo hc7)
      obtain ⟨A7, c7, rfl⟩ := hs7.slice
      have hc07 := ((hc03.trans hc35).trans hc6).trans hc7
      clear hs7
      go_wp2_with (first | (with_reducible refine stop_append ?_) | (with_reducible refine stop_copy ?_) | (with_reducible refine stop_make ?_) | (with_reducible refine stop_lookup ?_) | (with_reducible refine stop_update ?_) | (with_reducible refine stop_slice ?_) | (with_reducible refine stop_range ?_) | (with_reducible refine stop_next ?_) | (with_reducible refine stop_convert ⟨_, rfl⟩ ?_) | (with_reducible refine stop_convertB ⟨_, _, _, rfl⟩ ?_) | (with_reducible refine stop_eqSlice ⟨_, _, rfl⟩ ?_))
      have hpt : (rowF sb).take (rowF sa).length = rowF sa := by obtain ⟨tt, ht⟩ := Hpre.out; rw [← ht]; simp
      rw [show decide ((rowF sb).length < (rowF sa).length) = false by simp; omega]
      refine step_slice_g (α := Int × Int) (l := 0) (h := (rowF sa).length) (by kernel_rfl) Try.underlying42 info_place Hs7.out (by kernel_rfl) Bound.none (Bound.some (kd := .i64) (by kernel_rfl)) (by omega) hple ?_
      intro A8 c8 hs8
      simp only [Nat.sub_zero, List.drop_zero] at hs8 ⊢
      rw [hpt] at hs8
      have Hs8 := Lib.hid (samerow_any _ _ _ _ _ _ _ Hs6'.out hs8 (by omega) (by omega))
      clear hs8
      go_wp2_with (first | (with_reducible refine stop_append ?_) | (with_reducible refine stop_copy ?_) | (with_reducible refine stop_make ?_) | (with_reducible refine stop_lookup ?_) | (with_reducible refine stop_update ?_) | (with_reducible refine stop_slice ?_) | (with_reducible refine stop_range ?_) | (with_reducible refine stop_next ?_) | (with_reducible refine stop_convert ⟨_, rfl⟩ ?_) | (with_reducible refine stop_convertB ⟨_, _, _, rfl⟩ ?_) | (with_reducible refine stop_eqSlice ⟨_, _, rfl⟩ ?_))
      refine Hs8.out.mono ?_
      rintro e w8 ⟨rfl, hc8⟩
      simp only [decide_true]
      have hc08 := hc07.trans hc8
      have Hs9 := Lib.hid (Sl.up (Hs7.out.keepNo hc8) (Nat.le_refl _))
      have Hsteps := Lib.hid HIb.out.steps
      clear Hs6 Hs6' Hs7 Hs8 hpt
      generalize rowF sb = ys at *
      go_wp2_with (first | (with_reducible refine stop_append ?_) | (with_reducible refine stop_copy ?_) | (with_reducible refine stop_make ?_) | (with_reducible refine stop_lookup ?_) | (with_reducible refine stop_update ?_) | (with_reducible refine stop_slice ?_) | (with_reducible refine stop_range ?_) | (with_reducible refine stop_next ?_) | (with_reducible refine stop_convert ⟨_, rfl⟩ ?_) | (with_reducible refine stop_convertB ⟨_, _, _, rfl⟩ ?_) | (with_reducible refine stop_eqSlice ⟨_, _, rfl⟩ ?_))
      refine step_make (α := Int) (n := 8) No w8.heap.size 0 Try.underlying46 vinfo_int rfl (by decide) rfl rfl (by omega) (by omega) (Nat.le_refl _) ?_
      intro v9 w9 hown hob hc9
      obtain ⟨A9, c9, rfl⟩ := hown.slice
      obtain ⟨g, rfl, hg1, hg2⟩ := hown.addr (by simp)
      rw [List.length_replicate] at hown
      have hrep : List.replicate 8 (0 : Int) = List.replicate m 0 ++ List.replicate (8 - m) 0 := by rw [List.replicate_append_replicate]; congr 1; omega
      rw [hrep] at hown
      have Hown := Lib.hid hown
      clear hown hob hrep
      rw [List.length_replicate]
      have hc09 := hc08.trans hc9
      have Hys := Lib.hid (fun W (hW : Chg No w8 W) => Hs9.out.keepNo hW)
      go_wp2_with (first | (with_reducible refine stop_append ?_) | (with_reducible refine stop_copy ?_) | (with_reducible refine stop_make ?_) | (with_reducible refine stop_lookup ?_) | (with_reducible refine stop_update ?_) | (with_reducible refine stop_slice ?_) | (with_reducible refine stop_range ?_) | (with_reducible refine stop_next ?_) | (with_reducible refine stop_convert ⟨_, rfl⟩ ?_) | (with_reducible refine stop_convertB ⟨_, _, _, rfl⟩ ?_) | (with_reducible refine stop_eqSlice ⟨_, _, rfl⟩ ?_))
      go_loopw [17, 98] (fun _ v98 wr => ∃ (j : Nat) (cs : List Int), j ≤ ys.length ∧ v98 = .int .i64 j ∧ Chg No w8 wr ∧ cs.length = m ∧ (∀ x ∈ cs, 0 ≤ x ∧ x ≤ j) ∧ Cb.Steps cs (ys.drop j) sb.last ∧ Cb.Own No wr w8.heap.size 3 (.slice (some ⟨g, 0, none⟩) 8 c9) (cs ++ List.replicate (8 - m) 0)) (fun _ v98 _ => ys.length - (intOf v98).toNat)
      case atStart => exact ⟨0, List.replicate m 0, by omega, rfl, hc9, by simp, fun x hx => by rw [List.eq_of_mem_replicate hx]; omega, by simpa using Hsteps.out, Hown.out⟩
      case round =>
        obtain ⟨j, cs, hj, rfl, hcr, hcl, hcb, hst, hown⟩ := hrel
        by_cases hlt : j < ys.length
        · obtain ⟨b, o, d, rfl, hnb, hbl, ⟨_, _, rfl, rfl, rfl⟩, ha⟩ := (Hys.out wr hcr).get j hlt
          have ha0 := ha 0 _ rfl
          have ha1 := ha 1 _ rfl
          simp only [show Rep.n (Int × Int) = 2 from rfl, Nat.add_zero] at ha0 ha1
          rw [List.drop_eq_getElem_cons hlt] at hst
          obtain ⟨s, hs, hx, hst⟩ := steps_head hst
          rw [hx] at ha0 ha1
          simp only at ha0 ha1
          have hcs := hcb _ (List.getElem_mem hs)
          have hca := ((Chg.refl No wr).alloc (.cells #[.int .i64 s, .int .i64 cs[s]] 24)).drew
          have hownA := hown.keepFlat hca (fun _ _ f => f)
          have hget := hownA.get1 s (by rw [List.length_append]; omega)
          obtain ⟨hset, hfree⟩ := hownA.set1 s (by rw [List.length_append]; omega) (b := g) rfl (cs[s] + 1)
          rw [List.getElem_append_left hs] at hget
          rw [List.set_append_left _ _ hs] at hset
          have o17 : ((wr.alloc (.cells #[.int .i64 s, .int .i64 cs[s]] 24)).drew).heap[wr.heap.size]? = some (.cells #[.int .i64 s, .int .i64 cs[s]] 24 (0, 0)) := alloc_obj wr _
          have hcb' : ∀ x ∈ cs.set s (cs[s] + 1), 0 ≤ x ∧ x ≤ ((j + 1 : Nat) : Int) := fun x hx => by
            rcases List.mem_or_eq_of_mem_set hx with hx | rfl
            · have := hcb x hx; omega
            · omega
          have hcl' : (cs.set s (cs[s] + 1)).length = m := by simpa using hcl
          generalize cs[s] = y at *
          have hgq : g ≠ wr.heap.size := fun e => by have := (hown.lt g rfl).2; omega
          have Hset := Lib.hid hset
          have Hcb' := Lib.hid hcb'
          have Hcl' := Lib.hid hcl'
          have Hst := Lib.hid hst
          have hwr : IntKind.i64.wrap (y + 1) = y + 1 := IntWalk.i64_in _ (by omega)
          have hsm : (s : Int) < m := by omega
          have hs8 : (s : Int) < 8 := by omega
          clear hset hcb' hcl' hst hown hownA ha hx hcb
          generalize cs.set s (y + 1) = cs' at *
          go_wp2_with (first | (with_reducible refine stop_append ?_) | (with_reducible refine stop_copy ?_) | (with_reducible refine stop_make ?_) | (with_reducible refine stop_lookup ?_) | (with_reducible refine stop_update ?_) | (with_reducible refine stop_slice ?_) | (with_reducible refine stop_range ?_) | (with_reducible refine stop_next ?_) | (with_reducible refine stop_convert ⟨_, rfl⟩ ?_) | (with_reducible refine stop_convertB ⟨_, _, _, rfl⟩ ?_) | (with_reducible refine stop_eqSlice ⟨_, _, rfl⟩ ?_))
          have z0 : ((wr.alloc (.cells #[.int .i64 s, .int .i64 y] 24)).drew).cell? ⟨wr.heap.size, 0, none⟩ = some (.int .i64 s) := cell_obj (i := 0) o17 rfl
          have z1 : ((wr.alloc (.cells #[.int .i64 s, .int .i64 y] 24)).drew).cell? ⟨wr.heap.size, 1, none⟩ = some (.int .i64 y) := cell_obj (i := 1) o17 rfl
          generalize hw11 : (wr.alloc (.cells #[.int .i64 s, .int .i64 y] 24)).drew = w11 at *
          generalize wr.heap.size = q17 at *
          have hd1 := Lib.hid (show decide ((s : Int) < 0) = false by simp)
          have hd2 := Lib.hid (show decide (m ≤ s) = false by simp; omega)
          refine pl_start (fun W => W.cell? ⟨q17, 0, none⟩ = some (.int .i64 s) ∧ W.cell? ⟨q17, 1, none⟩ = some (.int .i64 y) ∧ W.cell? ⟨g, s, none⟩ = some (.int .i64 y) ∧ Hid (W = w11)) (by kernel_rfl) (by kernel_rfl) ⟨by rw [hw11]; exact z0, by rw [hw11]; exact z1, by rw [hw11]; exact hget, Lib.hid hw11⟩ ?_
          clear hw11
          ((refine pl_yes (i := 0) (oi := { dst := some 102, op := Go.Op.fieldAddr 24 (Go.Operand.tmp 17) 0, type := 0, pos := "law.go:135", after := #[], guard := none }) (v := ?_) rfl (by kernel_rfl) (by kernel_rfl) rfl ?_ ?_); rotate_left; focus (intro W hW; (try dsimp only at hW); go_split_ands; go_simp; (try (simp (disch := omega) only [IntWalk.i64_in]; (try go_simp))); (try (split; (next => omega); (try go_simp))); try rfl; done))
          try simp only [Act.put, List.setIfInBounds_toArray, List.set_cons_zero, List.set_cons_succ]
          ((refine pl_yes (i := 1) (oi := { dst := some 103, op := Go.Op.load 3 (Go.Operand.tmp 102), type := 3, pos := "law.go:135", after := #[{ on := 0, ground := Go.Ground.data }], guard := none }) (v := ?_) rfl (by kernel_rfl) (by kernel_rfl) rfl ?_ ?_); rotate_left; focus (intro W hW; (try dsimp only at hW); go_split_ands; go_simp; (try (simp (disch := omega) only [IntWalk.i64_in]; (try go_simp))); (try (split; (next => omega); (try go_simp))); try rfl; done))
          try simp only [Act.put, List.setIfInBounds_toArray, List.set_cons_zero, List.set_cons_succ]
          ((refine pl_yes (i := 2) (oi := { dst := some 104, op := Go.Op.binOp Go.BinOp.lss 3 (Go.Operand.tmp 103) (Go.Operand.const (Go.Value.int Go.IntKind.i64 0)) 3, type := 4, pos := "law.go:135", after := #[{ on := 1, ground := Go.Ground.data }], guard := none }) (v := ?_) rfl (by kernel_rfl) (by kernel_rfl) rfl ?_ ?_); rotate_left; focus (intro W hW; (try dsimp only at hW); go_split_ands; go_simp; (try (simp (disch := omega) only [IntWalk.i64_in]; (try go_simp))); (try (split; (next => omega); (try go_simp))); try rfl; done))
          try simp only [Act.put, List.setIfInBounds_toArray, List.set_cons_zero, List.set_cons_succ]
          -- ready: [3]
          rw [hd1.out]
          ((refine pl_yes (i := 3) (oi := { dst := some 105, op := Go.Op.move (Go.Operand.tmp 104), type := 4, pos := "law.go:135", after := #[{ on := 2, ground := Go.Ground.data }], guard := none }) (v := ?_) rfl (by kernel_rfl) (by kernel_rfl) rfl ?_ ?_); rotate_left; focus (intro W hW; (try dsimp only at hW); go_split_ands; go_simp; (try (simp (disch := omega) only [IntWalk.i64_in]; (try go_simp))); (try (split; (next => omega); (try go_simp))); try rfl; done))
          try simp only [Act.put, List.setIfInBounds_toArray, List.set_cons_zero, List.set_cons_succ]
          first | (refine pl_no (i := 4) (oi := { dst := some 106, op := Go.Op.fieldAddr 24 (Go.Operand.tmp 17) 0, type := 0, pos := "law.go:135", after := #[{ on := 3, ground := Go.Ground.guard }], guard := some (3, false) }) rfl (by kernel_rfl) (by kernel_rfl) rfl ?_) | ((refine pl_yes (i := 4) (oi := { dst := some 106, op := Go.Op.fieldAddr 24 (Go.Operand.tmp 17) 0, type := 0, pos := "law.go:135", after := #[{ on := 3, ground := Go.Ground.guard }], guard := some (3, false) }) (v := ?_) rfl (by kernel_rfl) (by kernel_rfl) rfl ?_ ?_); rotate_left; focus (intro W hW; (try dsimp only at hW); go_split_ands; go_simp; (try (simp (disch := omega) only [IntWalk.i64_in]; (try go_simp))); (try (split; (next => omega); (try go_simp))); try rfl; done))
          try simp only [Act.put, List.setIfInBounds_toArray, List.set_cons_zero, List.set_cons_succ]
          first | (refine pl_no (i := 5) (oi := { dst := some 107, op := Go.Op.load 3 (Go.Operand.tmp 106), type := 3, pos := "law.go:135", after := #[{ on := 4, ground := Go.Ground.data }, { on := 3, ground := Go.Ground.guard }], guard := some (3, false) }) rfl (by kernel_rfl) (by kernel_rfl) rfl ?_) | ((refine pl_yes (i := 5) (oi := { dst := some 107, op := Go.Op.load 3 (Go.Operand.tmp 106), type := 3, pos := "law.go:135", after := #[{ on := 4, ground := Go.Ground.data }, { on := 3, ground := Go.Ground.guard }], guard := some (3, false) }) (v := ?_) rfl (by kernel_rfl) (by kernel_rfl) rfl ?_ ?_); rotate_left; focus (intro W hW; (try dsimp only at hW); go_split_ands; go_simp; (try (simp (disch := omega) only [IntWalk.i64_in]; (try go_simp))); (try (split; (next => omega); (try go_simp))); try rfl; done))
          try simp only [Act.put, List.setIfInBounds_toArray, List.set_cons_zero, List.set_cons_succ]
          first | (refine pl_no (i := 6) (oi := { dst := some 108, op := Go.Op.move (Go.Operand.tmp 0), type := 3, pos := "law.go:135", after := #[{ on := 3, ground := Go.Ground.guard }], guard := some (3, false) }) rfl (by kernel_rfl) (by kernel_rfl) rfl ?_) | ((refine pl_yes (i := 6) (oi := { dst := some 108, op := Go.Op.move (Go.Operand.tmp 0), type := 3, pos := "law.go:135", after := #[{ on := 3, ground := Go.Ground.guard }], guard := some (3, false) }) (v := ?_) rfl (by kernel_rfl) (by kernel_rfl) rfl ?_ ?_); rotate_left; focus (intro W hW; (try dsimp only at hW); go_split_ands; go_simp; (try (simp (disch := omega) only [IntWalk.i64_in]; (try go_simp))); (try (split; (next => omega); (try go_simp))); try rfl; done))
          try simp only [Act.put, List.setIfInBounds_toArray, List.set_cons_zero, List.set_cons_succ]
          first | (refine pl_no (i := 7) (oi := { dst := some 109, op := Go.Op.binOp Go.BinOp.geq 3 (Go.Operand.tmp 107) (Go.Operand.tmp 108) 3, type := 4, pos := "law.go:135", after := #[{ on := 5, ground := Go.Ground.data }, { on := 6, ground := Go.Ground.data }, { on := 3, ground := Go.Ground.guard }], guard := some (3, false) }) rfl (by kernel_rfl) (by kernel_rfl) rfl ?_) | ((refine pl_yes (i := 7) (oi := { dst := some 109, op := Go.Op.binOp Go.BinOp.geq 3 (Go.Operand.tmp 107) (Go.Operand.tmp 108) 3, type := 4, pos := "law.go:135", after := #[{ on := 5, ground := Go.Ground.data }, { on := 6, ground := Go.Ground.data }, { on := 3, ground := Go.Ground.guard }], guard := some (3, false) }) (v := ?_) rfl (by kernel_rfl) (by kernel_rfl) rfl ?_ ?_); rotate_left; focus (intro W hW; (try dsimp only at hW); go_split_ands; go_simp; (try (simp (disch := omega) only [IntWalk.i64_in]; (try go_simp))); (try (split; (next => omega); (try go_simp))); try rfl; done))
          try simp only [Act.put, List.setIfInBounds_toArray, List.set_cons_zero, List.set_cons_succ]
          -- ready: [8]
          rw [hd2.out]
          ((refine pl_yes (i := 8) (oi := { dst := some 110, op := Go.Op.pick (Go.Operand.tmp 105) (Go.Operand.const (Go.Value.bool true)) (Go.Operand.tmp 109), type := 4, pos := "law.go:135", after := #[{ on := 3, ground := Go.Ground.data }, { on := 7, ground := Go.Ground.data }], guard := none }) (v := ?_) rfl (by kernel_rfl) (by kernel_rfl) rfl ?_ ?_); rotate_left; focus (intro W hW; (try dsimp only at hW); go_split_ands; go_simp; (try (simp (disch := omega) only [IntWalk.i64_in]; (try go_simp))); (try (split; (next => omega); (try go_simp))); try rfl; done))
          try simp only [Act.put, List.setIfInBounds_toArray, List.set_cons_zero, List.set_cons_succ]
          ((refine pl_yes (i := 9) (oi := { dst := some 111, op := Go.Op.move (Go.Operand.tmp 110), type := 4, pos := "law.go:135", after := #[{ on := 8, ground := Go.Ground.data }, { on := 3, ground := Go.Ground.chain }], guard := none }) (v := ?_) rfl (by kernel_rfl) (by kernel_rfl) rfl ?_ ?_); rotate_left; focus (intro W hW; (try dsimp only at hW); go_split_ands; go_simp; (try (simp (disch := omega) only [IntWalk.i64_in]; (try go_simp))); (try (split; (next => omega); (try go_simp))); try rfl; done))
          try simp only [Act.put, List.setIfInBounds_toArray, List.set_cons_zero, List.set_cons_succ]
          first | (refine pl_no (i := 10) (oi := { dst := some 112, op := Go.Op.fieldAddr 24 (Go.Operand.tmp 17) 1, type := 0, pos := "law.go:135", after := #[{ on := 9, ground := Go.Ground.guard }], guard := some (9, false) }) rfl (by kernel_rfl) (by kernel_rfl) rfl ?_) | ((refine pl_yes (i := 10) (oi := { dst := some 112, op := Go.Op.fieldAddr 24 (Go.Operand.tmp 17) 1, type := 0, pos := "law.go:135", after := #[{ on := 9, ground := Go.Ground.guard }], guard := some (9, false) }) (v := ?_) rfl (by kernel_rfl) (by kernel_rfl) rfl ?_ ?_); rotate_left; focus (intro W hW; (try dsimp only at hW); go_split_ands; go_simp; (try (simp (disch := omega) only [IntWalk.i64_in]; (try go_simp))); (try (split; (next => omega); (try go_simp))); try rfl; done))
          try simp only [Act.put, List.setIfInBounds_toArray, List.set_cons_zero, List.set_cons_succ]
          first | (refine pl_no (i := 11) (oi := { dst := some 113, op := Go.Op.load 3 (Go.Operand.tmp 112), type := 3, pos := "law.go:135", after := #[{ on := 10, ground := Go.Ground.data }, { on := 9, ground := Go.Ground.guard }], guard := some (9, false) }) rfl (by kernel_rfl) (by kernel_rfl) rfl ?_) | ((refine pl_yes (i := 11) (oi := { dst := some 113, op := Go.Op.load 3 (Go.Operand.tmp 112), type := 3, pos := "law.go:135", after := #[{ on := 10, ground := Go.Ground.data }, { on := 9, ground := Go.Ground.guard }], guard := some (9, false) }) (v := ?_) rfl (by kernel_rfl) (by kernel_rfl) rfl ?_ ?_); rotate_left; focus (intro W hW; (try dsimp only at hW); go_split_ands; go_simp; (try (simp (disch := omega) only [IntWalk.i64_in]; (try go_simp))); (try (split; (next => omega); (try go_simp))); try rfl; done))
          try simp only [Act.put, List.setIfInBounds_toArray, List.set_cons_zero, List.set_cons_succ]
          first | (refine pl_no (i := 12) (oi := { dst := some 114, op := Go.Op.move (Go.Operand.tmp 15), type := 46, pos := "law.go:135", after := #[{ on := 9, ground := Go.Ground.guard }], guard := some (9, false) }) rfl (by kernel_rfl) (by kernel_rfl) rfl ?_) | ((refine pl_yes (i := 12) (oi := { dst := some 114, op := Go.Op.move (Go.Operand.tmp 15), type := 46, pos := "law.go:135", after := #[{ on := 9, ground := Go.Ground.guard }], guard := some (9, false) }) (v := ?_) rfl (by kernel_rfl) (by kernel_rfl) rfl ?_ ?_); rotate_left; focus (intro W hW; (try dsimp only at hW); go_split_ands; go_simp; (try (simp (disch := omega) only [IntWalk.i64_in]; (try go_simp))); (try (split; (next => omega); (try go_simp))); try rfl; done))
          try simp only [Act.put, List.setIfInBounds_toArray, List.set_cons_zero, List.set_cons_succ]
          first | (refine pl_no (i := 13) (oi := { dst := some 115, op := Go.Op.fieldAddr 24 (Go.Operand.tmp 17) 0, type := 0, pos := "law.go:135", after := #[{ on := 9, ground := Go.Ground.guard }], guard := some (9, false) }) rfl (by kernel_rfl) (by kernel_rfl) rfl ?_) | ((refine pl_yes (i := 13) (oi := { dst := some 115, op := Go.Op.fieldAddr 24 (Go.Operand.tmp 17) 0, type := 0, pos := "law.go:135", after := #[{ on := 9, ground := Go.Ground.guard }], guard := some (9, false) }) (v := ?_) rfl (by kernel_rfl) (by kernel_rfl) rfl ?_ ?_); rotate_left; focus (intro W hW; (try dsimp only at hW); go_split_ands; go_simp; (try (simp (disch := omega) only [IntWalk.i64_in]; (try go_simp))); (try (split; (next => omega); (try go_simp))); try rfl; done))
          try simp only [Act.put, List.setIfInBounds_toArray, List.set_cons_zero, List.set_cons_succ]
          first | (refine pl_no (i := 14) (oi := { dst := some 116, op := Go.Op.load 3 (Go.Operand.tmp 115), type := 3, pos := "law.go:135", after := #[{ on := 13, ground := Go.Ground.data }, { on := 9, ground := Go.Ground.guard }], guard := some (9, false) }) rfl (by kernel_rfl) (by kernel_rfl) rfl ?_) | ((refine pl_yes (i := 14) (oi := { dst := some 116, op := Go.Op.load 3 (Go.Operand.tmp 115), type := 3, pos := "law.go:135", after := #[{ on := 13, ground := Go.Ground.data }, { on := 9, ground := Go.Ground.guard }], guard := some (9, false) }) (v := ?_) rfl (by kernel_rfl) (by kernel_rfl) rfl ?_ ?_); rotate_left; focus (intro W hW; (try dsimp only at hW); go_split_ands; go_simp; (try (simp (disch := omega) only [IntWalk.i64_in]; (try go_simp))); (try (split; (next => omega); (try go_simp))); try rfl; done))
          try simp only [Act.put, List.setIfInBounds_toArray, List.set_cons_zero, List.set_cons_succ]
          first | (refine pl_no (i := 15) (oi := { dst := some 117, op := Go.Op.indexAddr 46 (Go.Operand.tmp 114) (Go.Operand.tmp 116), type := 0, pos := "law.go:135", after := #[{ on := 12, ground := Go.Ground.data }, { on := 14, ground := Go.Ground.data }, { on := 9, ground := Go.Ground.guard }], guard := some (9, false) }) rfl (by kernel_rfl) (by kernel_rfl) rfl ?_) | ((refine pl_yes (i := 15) (oi := { dst := some 117, op := Go.Op.indexAddr 46 (Go.Operand.tmp 114) (Go.Operand.tmp 116), type := 0, pos := "law.go:135", after := #[{ on := 12, ground := Go.Ground.data }, { on := 14, ground := Go.Ground.data }, { on := 9, ground := Go.Ground.guard }], guard := some (9, false) }) (v := ?_) rfl (by kernel_rfl) (by kernel_rfl) rfl ?_ ?_); rotate_left; focus (intro W hW; (try dsimp only at hW); go_split_ands; go_simp; (try (simp (disch := omega) only [IntWalk.i64_in]; (try go_simp))); (try (split; (next => omega); (try go_simp))); try rfl; done))
          try simp only [Act.put, List.setIfInBounds_toArray, List.set_cons_zero, List.set_cons_succ]
          first | (refine pl_no (i := 16) (oi := { dst := some 118, op := Go.Op.load 3 (Go.Operand.tmp 117), type := 3, pos := "law.go:135", after := #[{ on := 15, ground := Go.Ground.data }, { on := 9, ground := Go.Ground.guard }], guard := some (9, false) }) rfl (by kernel_rfl) (by kernel_rfl) rfl ?_) | ((refine pl_yes (i := 16) (oi := { dst := some 118, op := Go.Op.load 3 (Go.Operand.tmp 117), type := 3, pos := "law.go:135", after := #[{ on := 15, ground := Go.Ground.data }, { on := 9, ground := Go.Ground.guard }], guard := some (9, false) }) (v := ?_) rfl (by kernel_rfl) (by kernel_rfl) rfl ?_ ?_); rotate_left; focus (intro W hW; (try dsimp only at hW); go_split_ands; go_simp; (try (simp (disch := omega) only [IntWalk.i64_in]; (try go_simp))); (try (split; (next => omega); (try go_simp))); try rfl; done))
          try simp only [Act.put, List.setIfInBounds_toArray, List.set_cons_zero, List.set_cons_succ]
          first | (refine pl_no (i := 17) (oi := { dst := some 119, op := Go.Op.binOp Go.BinOp.neq 3 (Go.Operand.tmp 113) (Go.Operand.tmp 118) 3, type := 4, pos := "law.go:135", after := #[{ on := 11, ground := Go.Ground.data }, { on := 16, ground := Go.Ground.data }, { on := 9, ground := Go.Ground.guard }], guard := some (9, false) }) rfl (by kernel_rfl) (by kernel_rfl) rfl ?_) | ((refine pl_yes (i := 17) (oi := { dst := some 119, op := Go.Op.binOp Go.BinOp.neq 3 (Go.Operand.tmp 113) (Go.Operand.tmp 118) 3, type := 4, pos := "law.go:135", after := #[{ on := 11, ground := Go.Ground.data }, { on := 16, ground := Go.Ground.data }, { on := 9, ground := Go.Ground.guard }], guard := some (9, false) }) (v := ?_) rfl (by kernel_rfl) (by kernel_rfl) rfl ?_ ?_); rotate_left; focus (intro W hW; (try dsimp only at hW); go_split_ands; go_simp; (try (simp (disch := omega) only [IntWalk.i64_in]; (try go_simp))); (try (split; (next => omega); (try go_simp))); try rfl; done))
          try simp only [Act.put, List.setIfInBounds_toArray, List.set_cons_zero, List.set_cons_succ]
          ((refine pl_yes (i := 18) (oi := { dst := some 120, op := Go.Op.pick (Go.Operand.tmp 111) (Go.Operand.const (Go.Value.bool true)) (Go.Operand.tmp 119), type := 4, pos := "law.go:135", after := #[{ on := 9, ground := Go.Ground.data }, { on := 17, ground := Go.Ground.data }], guard := none }) (v := ?_) rfl (by kernel_rfl) (by kernel_rfl) rfl ?_ ?_); rotate_left; focus (intro W hW; (try dsimp only at hW); go_split_ands; go_simp; (try (simp (disch := omega) only [IntWalk.i64_in]; (try go_simp))); (try (split; (next => omega); (try go_simp))); try rfl; done))
          try simp only [Act.put, List.setIfInBounds_toArray, List.set_cons_zero, List.set_cons_succ]
          -- ready: []
          refine pl_done (by kernel_rfl)  ?_
          rintro w12 ⟨_, _, _, hw12⟩
          obtain rfl := hw12.out
          have hcw : Chg No w8 (w12.setCell ⟨g, s, none⟩ (.int .i64 (y + 1))) := (hcr.trans hca).old (chg_set (w := w12) (b := g) (i := s) (.int .i64 (y + 1))) (fun i hi => by simp only [At] at hi; omega)
          clear o17
          go_wp2_with (first | (with_reducible refine stop_append ?_) | (with_reducible refine stop_copy ?_) | (with_reducible refine stop_make ?_) | (with_reducible refine stop_lookup ?_) | (with_reducible refine stop_update ?_) | (with_reducible refine stop_slice ?_) | (with_reducible refine stop_range ?_) | (with_reducible refine stop_next ?_) | (with_reducible refine stop_convert ⟨_, rfl⟩ ?_) | (with_reducible refine stop_convertB ⟨_, _, _, rfl⟩ ?_) | (with_reducible refine stop_eqSlice ⟨_, _, rfl⟩ ?_))
          go_roundw
          case rel => exact ⟨j + 1, cs', by omega, by go_num, hcw, Hcl'.out, Hcb'.out, Hst.out, Hset.out⟩
          case measure => simp [intOf]; omega
        · obtain rfl : j = ys.length := by omega
          go_wp2_with (first | (with_reducible refine stop_append ?_) | (with_reducible refine stop_copy ?_) | (with_reducible refine stop_make ?_) | (with_reducible refine stop_lookup ?_) | (with_reducible refine stop_update ?_) | (with_reducible refine stop_slice ?_) | (with_reducible refine stop_range ?_) | (with_reducible refine stop_next ?_) | (with_reducible refine stop_convert ⟨_, rfl⟩ ?_) | (with_reducible refine stop_convertB ⟨_, _, _, rfl⟩ ?_) | (with_reducible refine stop_eqSlice ⟨_, _, rfl⟩ ?_))
          refine (oalive_any _).mono ?_
          rintro e w10 ⟨rfl, hc10⟩
          go_wp2_with (first | (with_reducible refine stop_append ?_) | (with_reducible refine stop_copy ?_) | (with_reducible refine stop_make ?_) | (with_reducible refine stop_lookup ?_) | (with_reducible refine stop_update ?_) | (with_reducible refine stop_slice ?_) | (with_reducible refine stop_range ?_) | (with_reducible refine stop_next ?_) | (with_reducible refine stop_convert ⟨_, rfl⟩ ?_) | (with_reducible refine stop_convertB ⟨_, _, _, rfl⟩ ?_) | (with_reducible refine stop_eqSlice ⟨_, _, rfl⟩ ?_))
          go_ret
          exact ⟨rfl, (hc08.trans hcr).trans hc10⟩
    · go_enter Try.func4, Try.ntmps4
      go_wp2_with (first | (with_reducible refine stop_append ?_) | (with_reducible refine stop_copy ?_) | (with_reducible refine stop_make ?_) | (with_reducible refine stop_lookup ?_) | (with_reducible refine stop_update ?_) | (with_reducible refine stop_slice ?_) | (with_reducible refine stop_range ?_) | (with_reducible refine stop_next ?_) | (with_reducible refine stop_convert ⟨_, rfl⟩ ?_) | (with_reducible refine stop_convertB ⟨_, _, _, rfl⟩ ?_) | (with_reducible refine stop_eqSlice ⟨_, _, rfl⟩ ?_))
      refine Hfew.out.mono ?_
      rintro e w1 ⟨rfl, hc1⟩
      go_wp2_with (first | (with_reducible refine stop_append ?_) | (with_reducible refine stop_copy ?_) | (with_reducible refine stop_make ?_) | (with_reducible refine stop_lookup ?_) | (with_reducible refine stop_update ?_) | (with_reducible refine stop_slice ?_) | (with_reducible refine stop_range ?_) | (with_reducible refine stop_next ?_) | (with_reducible refine stop_convert ⟨_, rfl⟩ ?_) | (with_reducible refine stop_convertB ⟨_, _, _, rfl⟩ ?_) | (with_reducible refine stop_eqSlice ⟨_, _, rfl⟩ ?_))
      refine step_slice (α := Ent) (l := 0) (h := k) Try.underlying22 info_rent (H.out _ hc1) rfl Bound.none (Bound.some rfl) (by omega) hkl ?_
      intro A1 c1 hs1
      simp only [Nat.sub_zero, List.drop_zero] at hs1 ⊢
      have Hs1 := Lib.hid (mine_any _ (l.take k) w1 hs1 (by rw [htl]; omega))
      clear hs1
      go_wp2_with (first | (with_reducible refine stop_append ?_) | (with_reducible refine stop_copy ?_) | (with_reducible refine stop_make ?_) | (with_reducible refine stop_lookup ?_) | (with_reducible refine stop_update ?_) | (with_reducible refine stop_slice ?_) | (with_reducible refine stop_range ?_) | (with_reducible refine stop_next ?_) | (with_reducible refine stop_convert ⟨_, rfl⟩ ?_) | (with_reducible refine stop_convertB ⟨_, _, _, rfl⟩ ?_) | (with_reducible refine stop_eqSlice ⟨_, _, rfl⟩ ?_))
      refine Hs1.out.mono ?_
      rintro e w2 ⟨v2, rfl, hc2, hs2⟩
      obtain ⟨A2, c2, e2⟩ := hs2.slice
      rw [htl] at e2
      subst e2
      have Hs2 := Lib.hid (oof_no n _ (l.take k) _ hn hs2)
      clear hs2
      go_wp2_with (first | (with_reducible refine stop_append ?_) | (with_reducible refine stop_copy ?_) | (with_reducible refine stop_make ?_) | (with_reducible refine stop_lookup ?_) | (with_reducible refine stop_update ?_) | (with_reducible refine stop_slice ?_) | (with_reducible refine stop_range ?_) | (with_reducible refine stop_next ?_) | (with_reducible refine stop_convert ⟨_, rfl⟩ ?_) | (with_reducible refine stop_convertB ⟨_, _, _, rfl⟩ ?_) | (with_reducible refine stop_eqSlice ⟨_, _, rfl⟩ ?_))
      refine Hs2.out.mono ?_
      rintro e w3 ⟨rfl, hc3⟩
      have hc03 := (hc1.trans hc2).trans hc3
      go_wp2_with (first | (with_reducible refine stop_append ?_) | (with_reducible refine stop_copy ?_) | (with_reducible refine stop_make ?_) | (with_reducible refine stop_lookup ?_) | (with_reducible refine stop_update ?_) | (with_reducible refine stop_slice ?_) | (with_reducible refine stop_range ?_) | (with_reducible refine stop_next ?_) | (with_reducible refine stop_convert ⟨_, rfl⟩ ?_) | (with_reducible refine stop_convertB ⟨_, _, _, rfl⟩ ?_) | (with_reducible refine stop_eqSlice ⟨_, _, rfl⟩ ?_))
      refine (Hmine.out _ hc03).mono ?_
      rintro e w4 ⟨v4, rfl, hc4, hs4⟩
      obtain ⟨A4, c4, rfl⟩ := hs4.slice
      have Hs4 := Lib.hid (oof_no n _ l _ hn hs4)
      clear hs4
      go_wp2_with (first | (with_reducible refine stop_append ?_) | (with_reducible refine stop_copy ?_) | (with_reducible refine stop_make ?_) | (with_reducible refine stop_lookup ?_) | (with_reducible refine stop_update ?_) | (with_reducible refine stop_slice ?_) | (with_reducible refine stop_range ?_) | (with_reducible refine stop_next ?_) | (with_reducible refine stop_convert ⟨_, rfl⟩ ?_) | (with_reducible refine stop_convertB ⟨_, _, _, rfl⟩ ?_) | (with_reducible refine stop_eqSlice ⟨_, _, rfl⟩ ?_))
      refine Hs4.out.mono ?_
      rintro e w5 ⟨rfl, hc5⟩
      go_wp2_with (first | (with_reducible refine stop_append ?_) | (with_reducible refine stop_copy ?_) | (with_reducible refine stop_make ?_) | (with_reducible refine stop_lookup ?_) | (with_reducible refine stop_update ?_) | (with_reducible refine stop_slice ?_) | (with_reducible refine stop_range ?_) | (with_reducible refine stop_next ?_) | (with_reducible refine stop_convert ⟨_, rfl⟩ ?_) | (with_reducible refine stop_convertB ⟨_, _, _, rfl⟩ ?_) | (with_reducible refine stop_eqSlice ⟨_, _, rfl⟩ ?_))
      refine (oalive_any _).mono ?_
      rintro e w6 ⟨rfl, hc6⟩
      go_wp2_with (first | (with_reducible refine stop_append ?_) | (with_reducible refine stop_copy ?_) | (with_reducible refine stop_make ?_) | (with_reducible refine stop_lookup ?_) | (with_reducible refine stop_update ?_) | (with_reducible refine stop_slice ?_) | (with_reducible refine stop_range ?_) | (with_reducible refine stop_next ?_) | (with_reducible refine stop_convert ⟨_, rfl⟩ ?_) | (with_reducible refine stop_convertB ⟨_, _, _, rfl⟩ ?_) | (with_reducible refine stop_eqSlice ⟨_, _, rfl⟩ ?_))
      go_ret
      exact ⟨rfl, ((hc03.trans hc4).trans hc5).trans hc6⟩
end Go.Proofs.Ytbjpoamnglfjeaa

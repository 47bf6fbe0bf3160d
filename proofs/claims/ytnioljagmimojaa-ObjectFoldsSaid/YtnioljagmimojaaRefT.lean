/- Walks of the document's pack: a text read, and the end. -/
import Derived.Test.YtnioljagmimojaaRefR
set_option linter.unusedVariables false
set_option linter.unusedSimpArgs false
namespace Go.Proofs.Ytnioljagmimojaa
open Go.RowKit Cb

def takeS (s : ByteArray) (k : Nat) : ByteArray := ⟨(s.data.toList.take k).toArray⟩
def refText (most : Int) (s : ByteArray) (e : Int) : ByteArray × ByteArray × Int :=
  let a := refNum most s e
  if a.2.2 ≠ 0 then (⟨#[]⟩, a.2.1, a.2.2) else if (a.2.1.size : Int) < a.1 then (⟨#[]⟩, a.2.1, 20) else (takeS a.2.1 a.1.toNat, dropS a.2.1 a.1.toNat, 0)
theorem refNum_nonneg (most : Int) (s : ByteArray) (e : Int) : 0 ≤ (refNum most s e).1 := by
  unfold refNum
  split
  · simp
  · split
    · split <;> simp
    · dsimp only; split
      · simp
      · simp
set_option maxRecDepth 100000 in
set_option maxHeartbeats 1000000 in
theorem refreadtext_any (s : ByteArray) (e most : Int) (w : World) : Calls Try.prog 44 #[rdrV s e, .int .i64 most] w fun x w' => x = .returned (.tuple #[rdrV (refText most s e).2.1 (refText most s e).2.2, .string (refText most s e).1]) ∧ Chg No w w' := by
  have c := refreadnum_any s e most
  have hn0 := refNum_nonneg most s e
  obtain ⟨n, s1, e1, hR⟩ : ∃ n s1 e1, refNum most s e = (n, s1, e1) := ⟨_, _, _, rfl⟩
  unfold RN at c
  rw [hR] at c hn0
  have hT : refText most s e = if e1 ≠ 0 then (⟨#[]⟩, s1, e1) else if (s1.size : Int) < n then (⟨#[]⟩, s1, 20) else (takeS s1 n.toNat, dropS s1 n.toNat, 0) := by unfold refText; rw [hR]
  have HT := Lib.hid hT
  clear hT hR
  simp only at c hn0
  obtain ⟨n, rfl⟩ := Int.eq_ofNat_of_zero_le hn0
  have C := Lib.hid c
  clear c hn0
  have o2 := ((Chg.refl No _).alloc (.cells #[.string ⟨#[]⟩, .int .i64 0] 88)).obj (alloc_obj w (.cells #[.string s, .int .i64 e] 88)) (not_no _)
  have o4 := alloc_obj (w.alloc (.cells #[.string s, .int .i64 e] 88)) (.cells #[.string ⟨#[]⟩, .int .i64 0] 88)
  have hq : (w.alloc (.cells #[.string s, .int .i64 e] 88)).heap.size = w.heap.size + 1 := by simp
  have hc0 := ((Chg.refl No w).alloc (.cells #[.string s, .int .i64 e] 88)).alloc (.cells #[.string ⟨#[]⟩, .int .i64 0] 88)
  rw [hq] at o4
  have hge : w.heap.size ≤ w.heap.size + 1 := by omega
  have hge0 : w.heap.size ≤ w.heap.size := by omega
  have hne : w.heap.size ≠ w.heap.size + 1 := by omega
  unfold rdrV
  go_enter Try.func44, Try.ntmps44
  go_wp2_with (first | (with_reducible refine stop_append ?_) | (with_reducible refine stop_copy ?_) | (with_reducible refine stop_make ?_) | (with_reducible refine stop_lookup ?_) | (with_reducible refine stop_update ?_) | (with_reducible refine stop_slice ?_) | (with_reducible refine stop_range ?_) | (with_reducible refine stop_next ?_) | (with_reducible refine stop_convert ⟨_, rfl⟩ ?_) | (with_reducible refine stop_convertB ⟨_, _, _, rfl⟩ ?_) | (with_reducible refine stop_eqSlice ⟨_, _, rfl⟩ ?_))
  generalize (w.alloc (.cells #[.string s, .int .i64 e] 88)).alloc (.cells #[.string ⟨#[]⟩, .int .i64 0] 88) = w0 at *
  generalize hq4 : w.heap.size + 1 = q4 at *
  clear hq hq4
  refine (C.out _).mono ?_
  rintro x w1 ⟨rfl, hc1⟩
  have p2 := hc1.obj o2 (not_no _)
  have p4 := hc1.obj o4 (not_no _)
  have hc01 := hc0.trans hc1
  have b0 := cell_obj (i := 0) p2 rfl
  have b1 := cell_obj (i := 1) p2 rfl
  have g0 := free_obj (i := 0) p2
  have g1 := free_obj (i := 1) p2
  have c0 := cell_obj (i := 0) p4 rfl
  have c1 := cell_obj (i := 1) p4 rfl
  have f0 := free_obj (i := 0) p4
  have f1 := free_obj (i := 1) p4
  have hne2 := hne.symm
  clear o2 o4 p2 hc0 hc1 C
  generalize hq2 : w.heap.size = q2 at *
  have hge3 : w.heap.size ≤ q2 := by omega
  have hge4 : w.heap.size ≤ q4 := by omega
  clear hge hge0 hq2
  simp only [rdrV]
  by_cases he : e1 = 0
  · subst he
    by_cases hs : (s1.size : Int) < n
    · have hT := HT.out
      rw [if_neg (by simp), if_pos hs] at hT
      have HT2 := Lib.hid hT; clear hT
      go_wp2_with (first | (with_reducible refine stop_append ?_) | (with_reducible refine stop_copy ?_) | (with_reducible refine stop_make ?_) | (with_reducible refine stop_lookup ?_) | (with_reducible refine stop_update ?_) | (with_reducible refine stop_slice ?_) | (with_reducible refine stop_range ?_) | (with_reducible refine stop_next ?_) | (with_reducible refine stop_convert ⟨_, rfl⟩ ?_) | (with_reducible refine stop_convertB ⟨_, _, _, rfl⟩ ?_) | (with_reducible refine stop_eqSlice ⟨_, _, rfl⟩ ?_))
      refine (reffailed_any _ _ _ _).mono ?_
      have hcw := (hc01.setCell (p := ⟨q2, 0, none⟩) (.inr hge3) (.string s1)).setCell (p := ⟨q2, 1, none⟩) (.inr hge3) (.int .i64 0)
      have k0 := (((Chg.refl (At q2) w1).setCell (p := ⟨q2, 0, none⟩) (.inl rfl) (.string s1)).setCell (p := ⟨q2, 1, none⟩) (.inl rfl) (.int .i64 0)).cell c0 hne2
      have k1 := (((Chg.refl (At q2) w1).setCell (p := ⟨q2, 0, none⟩) (.inl rfl) (.string s1)).setCell (p := ⟨q2, 1, none⟩) (.inl rfl) (.int .i64 0)).cell c1 hne2
      have k4 := (((Chg.refl (At q2) w1).setCell (p := ⟨q2, 0, none⟩) (.inl rfl) (.string s1)).setCell (p := ⟨q2, 1, none⟩) (.inl rfl) (.int .i64 0)).obj p4 hne2
      rintro x w3 ⟨rfl, hc3⟩
      have o5 := hc3.obj k4 (not_no _)
      have hcw := hcw.trans hc3
      clear k0 k1 k4 c0 c1 f0 f1 b0 b1 g0 g1 p4
      have c0 := cell_obj (i := 0) o5 rfl
      have c1 := cell_obj (i := 1) o5 rfl
      have f0 := free_obj (i := 0) o5
      have f1 := free_obj (i := 1) o5
      simp only [rdrV, failE, if_true]
      go_wp2_with (first | (with_reducible refine stop_append ?_) | (with_reducible refine stop_copy ?_) | (with_reducible refine stop_make ?_) | (with_reducible refine stop_lookup ?_) | (with_reducible refine stop_update ?_) | (with_reducible refine stop_slice ?_) | (with_reducible refine stop_range ?_) | (with_reducible refine stop_next ?_) | (with_reducible refine stop_convert ⟨_, rfl⟩ ?_) | (with_reducible refine stop_convertB ⟨_, _, _, rfl⟩ ?_) | (with_reducible refine stop_eqSlice ⟨_, _, rfl⟩ ?_))
      refine bodyPost_ret (v := .tuple #[.agg #[.string s1, .int .i64 20], .string ⟨#[]⟩]) (by simp [results, Try.results44, go_sem, *]) rfl ?_
      exact ⟨by rw [HT2.out], (hcw.setCell (.inr hge4) _).setCell (.inr hge4) _⟩
    · have hT := HT.out
      rw [if_neg (by simp), if_neg hs] at hT
      have hnk : n ≤ s1.size := by omega
      obtain ⟨ta, hta⟩ : ∃ ta, ta = takeS s1 n := ⟨_, rfl⟩
      obtain ⟨da, hda⟩ : ∃ da, da = dropS s1 n := ⟨_, rfl⟩
      rw [Int.toNat_natCast, ← hta, ← hda] at hT
      have HT2 := Lib.hid hT; clear hT
      have Hta := Lib.hid hta; have Hda := Lib.hid hda; clear hta hda
      go_wp2_with (first | (with_reducible refine stop_append ?_) | (with_reducible refine stop_copy ?_) | (with_reducible refine stop_make ?_) | (with_reducible refine stop_lookup ?_) | (with_reducible refine stop_update ?_) | (with_reducible refine stop_slice ?_) | (with_reducible refine stop_range ?_) | (with_reducible refine stop_next ?_) | (with_reducible refine stop_convert ⟨_, rfl⟩ ?_) | (with_reducible refine stop_convertB ⟨_, _, _, rfl⟩ ?_) | (with_reducible refine stop_eqSlice ⟨_, _, rfl⟩ ?_))
      refine step_slice_text (l := 0) (h := n) Try.underlying9 rfl Bound.none (Bound.some rfl) (by omega) (by omega) ?_
      rw [List.drop_zero, show (⟨(s1.data.toList.take n).toArray⟩ : ByteArray) = ta from Hta.out.symm]
      go_wp2_with (first | (with_reducible refine stop_append ?_) | (with_reducible refine stop_copy ?_) | (with_reducible refine stop_make ?_) | (with_reducible refine stop_lookup ?_) | (with_reducible refine stop_update ?_) | (with_reducible refine stop_slice ?_) | (with_reducible refine stop_range ?_) | (with_reducible refine stop_next ?_) | (with_reducible refine stop_convert ⟨_, rfl⟩ ?_) | (with_reducible refine stop_convertB ⟨_, _, _, rfl⟩ ?_) | (with_reducible refine stop_eqSlice ⟨_, _, rfl⟩ ?_))
      refine step_slice_text (l := n) (h := s1.size) Try.underlying9 rfl (Bound.some rfl) Bound.none (by omega) (by omega) ?_
      rw [cut_drop, ← Hda.out]
      go_wp2_with (first | (with_reducible refine stop_append ?_) | (with_reducible refine stop_copy ?_) | (with_reducible refine stop_make ?_) | (with_reducible refine stop_lookup ?_) | (with_reducible refine stop_update ?_) | (with_reducible refine stop_slice ?_) | (with_reducible refine stop_range ?_) | (with_reducible refine stop_next ?_) | (with_reducible refine stop_convert ⟨_, rfl⟩ ?_) | (with_reducible refine stop_convertB ⟨_, _, _, rfl⟩ ?_) | (with_reducible refine stop_eqSlice ⟨_, _, rfl⟩ ?_))
      refine bodyPost_ret (v := .tuple #[.agg #[.string da, .int .i64 0], .string ta]) (by simp [results, Try.results44, go_sem, *]) rfl ?_
      refine ⟨by rw [HT2.out], ?_⟩
      repeat (first | exact hc01 | refine Chg.setCell ?_ (.inr hge3) _ | refine Chg.setCell ?_ (.inr hge4) _)
  · have hT := HT.out
    rw [if_pos he] at hT
    have HT2 := Lib.hid hT; clear hT
    have he' : (e1 == 0) = false := by simpa using he
    go_wp2_with (first | (with_reducible refine stop_append ?_) | (with_reducible refine stop_copy ?_) | (with_reducible refine stop_make ?_) | (with_reducible refine stop_lookup ?_) | (with_reducible refine stop_update ?_) | (with_reducible refine stop_slice ?_) | (with_reducible refine stop_range ?_) | (with_reducible refine stop_next ?_) | (with_reducible refine stop_convert ⟨_, rfl⟩ ?_) | (with_reducible refine stop_convertB ⟨_, _, _, rfl⟩ ?_) | (with_reducible refine stop_eqSlice ⟨_, _, rfl⟩ ?_))
    refine bodyPost_ret (v := .tuple #[.agg #[.string s1, .int .i64 e1], .string ⟨#[]⟩]) (by simp [results, Try.results44, go_sem, *]) rfl ?_
    refine ⟨by rw [HT2.out], ?_⟩
    repeat (first | exact hc01 | refine Chg.setCell ?_ (.inr hge3) _ | refine Chg.setCell ?_ (.inr hge4) _)
def endE (s : ByteArray) (e : Int) : Int := if e = 0 ∧ 0 < s.size then 22 else e
theorem refend_any (s : ByteArray) (e : Int) (w : World) : Calls Try.prog 45 #[rdrV s e] w fun x w' => x = .returned (.int .i64 (endE s e)) ∧ Chg No w w' := by
  unfold rdrV
  by_cases he : e = 0
  · subst he
    by_cases hs : 0 < s.size
    · have : endE s 0 = 22 := if_pos ⟨rfl, hs⟩
      rw [this]; clear this
      have hs' : (0 : Int) < s.size := by omega
      go_enter Try.func45, Try.ntmps45
      go_wp2_with (first | (with_reducible refine stop_append ?_) | (with_reducible refine stop_copy ?_) | (with_reducible refine stop_make ?_) | (with_reducible refine stop_lookup ?_) | (with_reducible refine stop_update ?_) | (with_reducible refine stop_slice ?_) | (with_reducible refine stop_range ?_) | (with_reducible refine stop_next ?_) | (with_reducible refine stop_convert ⟨_, rfl⟩ ?_) | (with_reducible refine stop_convertB ⟨_, _, _, rfl⟩ ?_) | (with_reducible refine stop_eqSlice ⟨_, _, rfl⟩ ?_))
      go_ret
      exact ⟨rfl, (Chg.refl No w).alloc _⟩
    · have : endE s 0 = 0 := if_neg (fun h => hs h.2)
      rw [this]; clear this
      have hs' : ¬ (0 : Int) < s.size := by omega
      go_enter Try.func45, Try.ntmps45
      go_wp2_with (first | (with_reducible refine stop_append ?_) | (with_reducible refine stop_copy ?_) | (with_reducible refine stop_make ?_) | (with_reducible refine stop_lookup ?_) | (with_reducible refine stop_update ?_) | (with_reducible refine stop_slice ?_) | (with_reducible refine stop_range ?_) | (with_reducible refine stop_next ?_) | (with_reducible refine stop_convert ⟨_, rfl⟩ ?_) | (with_reducible refine stop_convertB ⟨_, _, _, rfl⟩ ?_) | (with_reducible refine stop_eqSlice ⟨_, _, rfl⟩ ?_))
      go_ret
      exact ⟨rfl, (Chg.refl No w).alloc _⟩
  · have : endE s e = e := if_neg (fun h => he h.1)
    rw [this]; clear this
    have he' : (e == 0) = false := by simpa using he
    go_enter Try.func45, Try.ntmps45
    go_wp2_with (first | (with_reducible refine stop_append ?_) | (with_reducible refine stop_copy ?_) | (with_reducible refine stop_make ?_) | (with_reducible refine stop_lookup ?_) | (with_reducible refine stop_update ?_) | (with_reducible refine stop_slice ?_) | (with_reducible refine stop_range ?_) | (with_reducible refine stop_next ?_) | (with_reducible refine stop_convert ⟨_, rfl⟩ ?_) | (with_reducible refine stop_convertB ⟨_, _, _, rfl⟩ ?_) | (with_reducible refine stop_eqSlice ⟨_, _, rfl⟩ ?_))
    go_ret
    exact ⟨rfl, (Chg.refl No w).alloc _⟩
end Go.Proofs.Ytnioljagmimojaa

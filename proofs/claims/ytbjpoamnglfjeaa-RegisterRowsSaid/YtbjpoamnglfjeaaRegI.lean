/- Walks of package entry for a register: Last. -/
import Derived.Test.YtbjpoamnglfjeaaRegH
set_option linter.unusedVariables false
set_option linter.unusedSimpArgs false
namespace Go.Proofs.Ytbjpoamnglfjeaa
open Go.RowKit Cb

def lastF (l : List Ent) (n : Nat) : List Int := (l.take (chainF l 0 []).1).foldl lastE (List.replicate n 0)
theorem chain_le (l : List Ent) : ∀ i last, (chainF l i last).1 ≤ i + l.length := by
  induction l with
  | nil => intro i last; simp [chainF]
  | cons e r ih =>
    intro i last
    simp only [chainF]
    split
    · have := ih (i + 1) (lastE last e); simp only [List.length_cons]; omega
    · simp
set_option maxRecDepth 100000 in
set_option maxHeartbeats 2000000 in
theorem last_any (v : Value) (l : List Ent) (n : Nat) (w : World) (h : Sl No w v l) (hl : l.length ≤ 2199023255488) (hcb : ∀ e ∈ l, e.2.2.1.length ≤ 1000000) (h1 : 1 ≤ n) (h8 : n ≤ 8) :
    Calls Try.prog 99 #[v, .int .i64 n] w fun e w' => ∃ v', e = .returned v' ∧ Chg No w w' ∧ Sl (Lt w.heap.size) w' v' (lastF l n) := by
  have Hch := Lib.hid (fun W (hW : Chg No w W) => chain_any v l W (h.keepNo hW) hl (fun e he => by have := hcb e he; omega))
  have Hz := Lib.hid (vzero_yes n w h1 h8)
  obtain ⟨A, c, rfl⟩ := h.slice
  have H := Lib.hid (fun W (hW : Chg No w W) => (Sl.up h (Nat.le_refl _)).keepNo hW)
  have hm : (chainF l 0 []).1 ≤ l.length := by have := chain_le l 0 []; omega
  have hlf : lastF l n = (l.take (chainF l 0 []).1).foldl lastE (List.replicate n 0) := rfl
  generalize lastF l n = R at *
  generalize (chainF l 0 []).1 = m at *
  have hb2 : ∀ e ∈ l.take m, e.2.2.1.length ≤ 1000000 := fun e he => hcb e (List.mem_of_mem_take he)
  have hlm : (l.take m).length = m := by rw [List.length_take]; omega
  have HL := Lib.hid (show ∀ k (hk : k < (l.take m).length), ((l.take m).take (k + 1)).foldl lastE (List.replicate n 0) = lastE (((l.take m).take k).foldl lastE (List.replicate n 0)) (l.take m)[k] from fun k hk => by
    rw [List.take_succ_eq_append_getElem hk, List.foldl_append]; rfl)
  have Hlf := Lib.hid hlf
  have Hb2 := Lib.hid hb2
  clear h hcb hlf hb2
  go_enter Try.func99, Try.ntmps99
  go_wp2_with (first | (with_reducible refine stop_append ?_) | (with_reducible refine stop_copy ?_) | (with_reducible refine stop_make ?_) | (with_reducible refine stop_lookup ?_) | (with_reducible refine stop_update ?_) | (with_reducible refine stop_slice ?_) | (with_reducible refine stop_range ?_) | (with_reducible refine stop_next ?_) | (with_reducible refine stop_convert ⟨_, rfl⟩ ?_) | (with_reducible refine stop_convertB ⟨_, _, _, rfl⟩ ?_) | (with_reducible refine stop_eqSlice ⟨_, _, rfl⟩ ?_))
  refine Hz.out.mono ?_
  rintro e w1 ⟨az, cz, rfl, hc1, hsz⟩
  have Hsz := Lib.hid (hsz.weak (G := No) (fun _ _ f => f.elim))
  clear hsz Hz
  go_wp2_with (first | (with_reducible refine stop_append ?_) | (with_reducible refine stop_copy ?_) | (with_reducible refine stop_make ?_) | (with_reducible refine stop_lookup ?_) | (with_reducible refine stop_update ?_) | (with_reducible refine stop_slice ?_) | (with_reducible refine stop_range ?_) | (with_reducible refine stop_next ?_) | (with_reducible refine stop_convert ⟨_, rfl⟩ ?_) | (with_reducible refine stop_convertB ⟨_, _, _, rfl⟩ ?_) | (with_reducible refine stop_eqSlice ⟨_, _, rfl⟩ ?_))
  refine (Hch.out _ hc1).mono ?_
  rintro e w2 ⟨rfl, hc2⟩
  have hcw2 := hc1.trans hc2
  clear Hch
  go_wp2_with (first | (with_reducible refine stop_append ?_) | (with_reducible refine stop_copy ?_) | (with_reducible refine stop_make ?_) | (with_reducible refine stop_lookup ?_) | (with_reducible refine stop_update ?_) | (with_reducible refine stop_slice ?_) | (with_reducible refine stop_range ?_) | (with_reducible refine stop_next ?_) | (with_reducible refine stop_convert ⟨_, rfl⟩ ?_) | (with_reducible refine stop_convertB ⟨_, _, _, rfl⟩ ?_) | (with_reducible refine stop_eqSlice ⟨_, _, rfl⟩ ?_))
  refine step_slice (α := Ent) (l := 0) (h := m) Try.underlying28 info_ent (H.out _ hcw2) rfl Bound.none (Bound.some rfl) (by omega) hm ?_
  intro A' c' hsl
  rw [List.drop_zero] at hsl
  rw [Nat.sub_zero] at *
  generalize l.take m = ls at *
  have Hsl := Lib.hid hsl
  clear hsl
  go_wp2_with (first | (with_reducible refine stop_append ?_) | (with_reducible refine stop_copy ?_) | (with_reducible refine stop_make ?_) | (with_reducible refine stop_lookup ?_) | (with_reducible refine stop_update ?_) | (with_reducible refine stop_slice ?_) | (with_reducible refine stop_range ?_) | (with_reducible refine stop_next ?_) | (with_reducible refine stop_convert ⟨_, rfl⟩ ?_) | (with_reducible refine stop_convertB ⟨_, _, _, rfl⟩ ?_) | (with_reducible refine stop_eqSlice ⟨_, _, rfl⟩ ?_))
  go_loopw [5, 15] (fun v5 v15 wr => ∃ (k : Nat) (last : List Int), k ≤ m ∧ v15 = .int .i64 k ∧ Chg No w2 wr ∧ Sl No wr v5 last ∧ last.length ≤ 1000000 ∧ last = (ls.take k).foldl lastE (List.replicate n 0)) (fun _ v15 _ => m - (intOf v15).toNat)
  case atStart => exact ⟨0, List.replicate n 0, by omega, rfl, Chg.refl _ _, Hsz.out.keepNo hc2, by simp; omega, rfl⟩
  case round =>
    obtain ⟨k, last, hk, rfl, hc, hsv, hll, hlast⟩ := hrel
    have Hlast := Lib.hid hlast
    have Hsv := Lib.hid hsv
    obtain ⟨A5, c5, rfl⟩ := hsv.slice
    clear hlast hsv
    by_cases hlt : k < m
    · have hlt2 : k < ls.length := by omega
      have hgs : Sl (Ge w.heap.size) wr (.slice A' ls.length c') ls := by rw [hlm]; exact Hsl.out.keepNo hc
      obtain ⟨b, o, vx, rfl, _, hbl, hux, a0, a1, a2, a3, a4, a5⟩ := ent_get hgs k hlt2
      have hbx := Hb2.out _ (List.getElem_mem hlt2)
      have Hst := Lib.hid (HL.out k hlt2)
      clear hgs
      have hlsd : lastE last ls[k] = if ls[k].2.1 = 1 then ls[k].2.2.1 else last := rfl
      have Hz := Lib.hid (show lastE last ls[k] = (ls.take (k + 1)).foldl lastE (List.replicate n 0) by rw [Hst.out, ← Hlast.out])
      clear Hst
      generalize lastE last ls[k] = las at *
      generalize ls[k] = x at *
      obtain ⟨n', kd, cut, tag, t, p⟩ := x
      simp only at *
      obtain ⟨Ax, cx, rfl⟩ := hux.slice
      have Hux := Lib.hid hux
      have Hls := Lib.hid hlsd
      clear hux hlsd
      have o1 := alloc_obj wr (.cells #[.int .i64 n', .int .i64 kd, .slice Ax cut.length cx, .int .i64 tag, .int .i64 t, .int .i64 p] 58)
      have hcA := (Chg.refl No wr).alloc (.cells #[.int .i64 n', .int .i64 kd, .slice Ax cut.length cx, .int .i64 tag, .int .i64 t, .int .i64 p] 58)
      have g1 := cell_obj (i := 1) o1 rfl
      have g2 := cell_obj (i := 2) o1 rfl
      have hcr := hc.trans hcA
      clear o1
      by_cases hk1 : kd = 1
      · subst hk1
        have Hz2 := Lib.hid (Hls.out.symm.trans Hz.out)
        simp only [if_true] at Hz2
        clear Hz Hls
        go_wp2_with (first | (with_reducible refine stop_append ?_) | (with_reducible refine stop_copy ?_) | (with_reducible refine stop_make ?_) | (with_reducible refine stop_lookup ?_) | (with_reducible refine stop_update ?_) | (with_reducible refine stop_slice ?_) | (with_reducible refine stop_range ?_) | (with_reducible refine stop_next ?_) | (with_reducible refine stop_convert ⟨_, rfl⟩ ?_) | (with_reducible refine stop_convertB ⟨_, _, _, rfl⟩ ?_) | (with_reducible refine stop_eqSlice ⟨_, _, rfl⟩ ?_))
        go_roundw
        case rel => exact ⟨k + 1, cut, by omega, by go_num, hcr, (Hux.out.weak (G := No) (fun _ _ f => f.elim)).keepNo hcA, hbx, Hz2.out⟩
        case measure => simp [intOf]; omega
      · have Hz2 := Lib.hid (Hls.out.symm.trans Hz.out)
        rw [if_neg hk1] at Hz2
        have hk2 : (kd == 1) = false := by simpa using hk1
        have hk3 : (kd != 1) = true := by simpa using hk1
        clear Hz Hls hk1
        go_wp2_with (first | (with_reducible refine stop_append ?_) | (with_reducible refine stop_copy ?_) | (with_reducible refine stop_make ?_) | (with_reducible refine stop_lookup ?_) | (with_reducible refine stop_update ?_) | (with_reducible refine stop_slice ?_) | (with_reducible refine stop_range ?_) | (with_reducible refine stop_next ?_) | (with_reducible refine stop_convert ⟨_, rfl⟩ ?_) | (with_reducible refine stop_convertB ⟨_, _, _, rfl⟩ ?_) | (with_reducible refine stop_eqSlice ⟨_, _, rfl⟩ ?_))
        go_roundw
        case rel => exact ⟨k + 1, last, by omega, by go_num, hcr, Hsv.out.keepNo hcA, hll, Hz2.out⟩
        case measure => simp [intOf]; omega
    · obtain rfl : k = m := by omega
      have Hcl := Lib.hid (vclone_any _ _ last wr Hsv.out hll)
      have hfin : last = R := by rw [Hlast.out, Hlf.out, ← hlm, List.take_length]
      have Hfin := Lib.hid hfin
      have hcw := hcw2.trans hc
      have hsz9 := hcw.size
      clear hfin
      go_wp2_with (first | (with_reducible refine stop_append ?_) | (with_reducible refine stop_copy ?_) | (with_reducible refine stop_make ?_) | (with_reducible refine stop_lookup ?_) | (with_reducible refine stop_update ?_) | (with_reducible refine stop_slice ?_) | (with_reducible refine stop_range ?_) | (with_reducible refine stop_next ?_) | (with_reducible refine stop_convert ⟨_, rfl⟩ ?_) | (with_reducible refine stop_convertB ⟨_, _, _, rfl⟩ ?_) | (with_reducible refine stop_eqSlice ⟨_, _, rfl⟩ ?_))
      refine Hcl.out.mono ?_
      rintro e w9 ⟨vn, rfl, hc9, hs9⟩
      obtain ⟨A9, c9, rfl⟩ := hs9.slice
      have Hs9 := Lib.hid hs9
      clear hs9
      go_wp2_with (first | (with_reducible refine stop_append ?_) | (with_reducible refine stop_copy ?_) | (with_reducible refine stop_make ?_) | (with_reducible refine stop_lookup ?_) | (with_reducible refine stop_update ?_) | (with_reducible refine stop_slice ?_) | (with_reducible refine stop_range ?_) | (with_reducible refine stop_next ?_) | (with_reducible refine stop_convert ⟨_, rfl⟩ ?_) | (with_reducible refine stop_convertB ⟨_, _, _, rfl⟩ ?_) | (with_reducible refine stop_eqSlice ⟨_, _, rfl⟩ ?_))
      go_ret
      exact ⟨_, rfl, hcw.trans hc9, Hfin.out ▸ Hs9.out.weak (fun i _ hi => by simp only [Lt] at *; omega)⟩
end Go.Proofs.Ytbjpoamnglfjeaa

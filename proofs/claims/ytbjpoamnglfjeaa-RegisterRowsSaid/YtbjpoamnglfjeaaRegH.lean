/- Walks of package entry for a register: Chain. -/
import Derived.Test.YtbjpoamnglfjeaaRegG
import Derived.Scope
set_option linter.unusedVariables false
set_option linter.unusedSimpArgs false
namespace Go.Proofs.Ytbjpoamnglfjeaa
open Go.RowKit Cb

def okE (i : Nat) (last : List Int) (e : Ent) : Bool := entR e && (decide (e.1 = (i : Int) + 1) && (!decide (e.2.1 = 1) || (decide (last.length = 0) || coversB e.2.2.1 last)))
def lastE (last : List Int) (e : Ent) : List Int := if e.2.1 = 1 then e.2.2.1 else last
/-- How many follow one another, and the last cut. -/
def chainF : List Ent → Nat → List Int → Nat × List Int
  | [], i, last => (i, last)
  | e :: r, i, last => if okE i last e = true then chainF r (i + 1) (lastE last e) else (i, last)
theorem chain_yes {l : List Ent} {k : Nat} {last : List Int} (hk : k < l.length) (h : okE k last l[k] = true) : chainF (l.drop k) k last = chainF (l.drop (k + 1)) (k + 1) (lastE last l[k]) := by
  rw [List.drop_eq_getElem_cons hk]; simp only [chainF]; rw [if_pos h]
theorem chain_no {l : List Ent} {k : Nat} {last : List Int} (hk : k < l.length) (h : okE k last l[k] = false) : chainF (l.drop k) k last = (k, last) := by
  rw [List.drop_eq_getElem_cons hk]; simp only [chainF]; rw [if_neg (by rw [h]; simp)]
set_option maxRecDepth 100000 in
set_option maxHeartbeats 2000000 in
theorem chain_any (v : Value) (l : List Ent) (w : World) (h : Sl No w v l) (hl : l.length ≤ 2199023255488) (hcb : ∀ e ∈ l, e.2.2.1.length ≤ 17592186043904) :
    Calls Try.prog 97 #[v] w fun e w' => e = .returned (.int .i64 ((chainF l 0 []).1 : Nat)) ∧ Chg No w w' := by
  obtain ⟨A, c, rfl⟩ := h.slice
  have H := Lib.hid (Sl.up h (Nat.le_refl _))
  have Hcb := Lib.hid hcb
  clear h hcb
  obtain ⟨R, hR⟩ : ∃ R, R = (chainF l 0 []).1 := ⟨_, rfl⟩
  rw [← hR]
  have HR := Lib.hid hR
  clear hR
  go_enter Try.func97, Try.ntmps97
  go_wp2_with (first | (with_reducible refine stop_append ?_) | (with_reducible refine stop_copy ?_) | (with_reducible refine stop_make ?_) | (with_reducible refine stop_lookup ?_) | (with_reducible refine stop_update ?_) | (with_reducible refine stop_slice ?_) | (with_reducible refine stop_range ?_) | (with_reducible refine stop_next ?_) | (with_reducible refine stop_convert ⟨_, rfl⟩ ?_) | (with_reducible refine stop_convertB ⟨_, _, _, rfl⟩ ?_) | (with_reducible refine stop_eqSlice ⟨_, _, rfl⟩ ?_))
  refine wp_scope_straight ?_
  go_wp2_with (first | (with_reducible refine stop_append ?_) | (with_reducible refine stop_copy ?_) | (with_reducible refine stop_make ?_) | (with_reducible refine stop_lookup ?_) | (with_reducible refine stop_update ?_) | (with_reducible refine stop_slice ?_) | (with_reducible refine stop_range ?_) | (with_reducible refine stop_next ?_) | (with_reducible refine stop_convert ⟨_, rfl⟩ ?_) | (with_reducible refine stop_convertB ⟨_, _, _, rfl⟩ ?_) | (with_reducible refine stop_eqSlice ⟨_, _, rfl⟩ ?_))
  refine wp_label ?_
  go_wp2_with (first | (with_reducible refine stop_append ?_) | (with_reducible refine stop_copy ?_) | (with_reducible refine stop_make ?_) | (with_reducible refine stop_lookup ?_) | (with_reducible refine stop_update ?_) | (with_reducible refine stop_slice ?_) | (with_reducible refine stop_range ?_) | (with_reducible refine stop_next ?_) | (with_reducible refine stop_convert ⟨_, rfl⟩ ?_) | (with_reducible refine stop_convertB ⟨_, _, _, rfl⟩ ?_) | (with_reducible refine stop_eqSlice ⟨_, _, rfl⟩ ?_))
  go_loopw [3, 4, 9] (fun v3 v4 v9 wr => ∃ (k : Nat) (last : List Int), k ≤ l.length ∧ v9 = .int .i64 k ∧ v4 = .int .i64 k ∧ Chg No w wr ∧ Sl (Ge w.heap.size) wr v3 last ∧ last.length ≤ 17592186043904 ∧ R = (chainF (l.drop k) k last).1) (fun _ _ v9 _ => l.length - (intOf v9).toNat)
  case atStart => exact ⟨0, [], by omega, rfl, rfl, Chg.refl _ _, Sl.nil _ _ _ _, by simp, HR.out⟩
  case round =>
    obtain ⟨k, last, hk, rfl, rfl, hc, hsl, hll, hch⟩ := hrel
    have Hch := Lib.hid hch
    have Hsl := Lib.hid hsl
    obtain ⟨A3, c3, rfl⟩ := hsl.slice
    clear hch hsl
    by_cases hlt : k < l.length
    · obtain ⟨b, o, vx, rfl, _, hbl, hux, a0, a1, a2, a3, a4, a5⟩ := ent_get (H.out.keepNo hc) k hlt
      have hbx := Hcb.out _ (List.getElem_mem hlt)
      have Hyes := Lib.hid (fun h => Hch.out.trans (congrArg Prod.fst (chain_yes (last := last) hlt h)))
      have Hno := Lib.hid (fun h => Hch.out.trans (congrArg Prod.fst (chain_no (last := last) hlt h)))
      clear Hch
      have hokd : okE k last l[k] = (entR l[k] && (decide (l[k].1 = (k : Int) + 1) && (!decide (l[k].2.1 = 1) || (decide (last.length = 0) || coversB l[k].2.2.1 last)))) := rfl
      have hlsd : lastE last l[k] = if l[k].2.1 = 1 then l[k].2.2.1 else last := rfl
      generalize okE k last l[k] = ok at *
      generalize lastE last l[k] = las at *
      have Hr := Lib.hid (fun W (hW : Chg No wr W) => eright_any _ l[k] vx W (hux.keepNo hW) (by omega))
      have Hcov := Lib.hid (fun W (hW : Chg No wr W) => vcovers_any _ _ vx (.slice A3 last.length c3) _ last W (hux.keepNo hW) (Hsl.out.keepNo hW) (by omega) (by omega))
      generalize entR l[k] = er at *
      generalize coversB l[k].2.2.1 last = cv at *
      generalize l[k] = x at *
      obtain ⟨n, kd, cut, tag, t, p⟩ := x
      unfold entV at Hr
      simp only at *
      obtain ⟨Ax, cx, rfl⟩ := hux.slice
      have Hux := Lib.hid hux
      clear hux
      have Hok := Lib.hid hokd
      have Hls := Lib.hid hlsd
      clear hokd hlsd
      have o1 := alloc_obj wr (.cells #[.int .i64 n, .int .i64 kd, .slice Ax cut.length cx, .int .i64 tag, .int .i64 t, .int .i64 p] 58)
      have hcA := (Chg.refl No wr).alloc (.cells #[.int .i64 n, .int .i64 kd, .slice Ax cut.length cx, .int .i64 tag, .int .i64 t, .int .i64 p] 58)
      have g0 := cell_obj (i := 0) o1 rfl
      have g1 := cell_obj (i := 1) o1 rfl
      have g2 := cell_obj (i := 2) o1 rfl
      have g3 := cell_obj (i := 3) o1 rfl
      have g4 := cell_obj (i := 4) o1 rfl
      have g5 := cell_obj (i := 5) o1 rfl
      clear o1
      go_wp2_with (first | (with_reducible refine stop_append ?_) | (with_reducible refine stop_copy ?_) | (with_reducible refine stop_make ?_) | (with_reducible refine stop_lookup ?_) | (with_reducible refine stop_update ?_) | (with_reducible refine stop_slice ?_) | (with_reducible refine stop_range ?_) | (with_reducible refine stop_next ?_) | (with_reducible refine stop_convert ⟨_, rfl⟩ ?_) | (with_reducible refine stop_convertB ⟨_, _, _, rfl⟩ ?_) | (with_reducible refine stop_eqSlice ⟨_, _, rfl⟩ ?_))
      generalize wr.alloc (.cells #[.int .i64 n, .int .i64 kd, .slice Ax cut.length cx, .int .i64 tag, .int .i64 t, .int .i64 p] 58) = w1 at *
      generalize wr.heap.size = q at *
      refine (Hr.out _ hcA).mono ?_
      rintro e w2 ⟨rfl, hc2⟩
      replace g0 := hc2.cell g0 (not_no _)
      replace g1 := hc2.cell g1 (not_no _)
      replace g2 := hc2.cell g2 (not_no _)
      have hcr := hcA.trans hc2
      have hcw := hc.trans hcr
      clear a0 a1 a2 a3 a4 a5 g3 g4 g5 hcA hc2
      cases er with
      | false =>
        have Hz := Lib.hid (Hno.out (by rw [Hok.out]; rfl))
        clear Hno Hyes Hok Hls
        go_wp2_with (first | (with_reducible refine stop_append ?_) | (with_reducible refine stop_copy ?_) | (with_reducible refine stop_make ?_) | (with_reducible refine stop_lookup ?_) | (with_reducible refine stop_update ?_) | (with_reducible refine stop_slice ?_) | (with_reducible refine stop_range ?_) | (with_reducible refine stop_next ?_) | (with_reducible refine stop_convert ⟨_, rfl⟩ ?_) | (with_reducible refine stop_convertB ⟨_, _, _, rfl⟩ ?_) | (with_reducible refine stop_eqSlice ⟨_, _, rfl⟩ ?_))
        dsimp only [Exit.noGoto]
        go_ret
        exact ⟨by rw [Hz.out]; rfl, hcw⟩
      | true =>
        by_cases hn : n = (k : Int) + 1
        · have hn1 := decide_eq_true hn
          have hn2 : (n != (k : Int) + 1) = false := by simpa using hn
          have hn3 : (n == (k : Int) + 1) = true := by simpa using hn
          clear hn
          by_cases hk1 : kd = 1
          · subst hk1
            by_cases hl0 : last.length = 0
            · have Hz := Lib.hid (Hyes.out (by rw [Hok.out, hn1, decide_eq_true hl0]; rfl))
              rw [show las = cut by rw [Hls.out]; rfl] at Hz
              clear Hno Hyes Hok Hls hn1
              rw [hl0]
              go_wp2_with (first | (with_reducible refine stop_append ?_) | (with_reducible refine stop_copy ?_) | (with_reducible refine stop_make ?_) | (with_reducible refine stop_lookup ?_) | (with_reducible refine stop_update ?_) | (with_reducible refine stop_slice ?_) | (with_reducible refine stop_range ?_) | (with_reducible refine stop_next ?_) | (with_reducible refine stop_convert ⟨_, rfl⟩ ?_) | (with_reducible refine stop_convertB ⟨_, _, _, rfl⟩ ?_) | (with_reducible refine stop_eqSlice ⟨_, _, rfl⟩ ?_))
              go_roundw
              case rel => exact ⟨k + 1, cut, by omega, by go_num, by go_num, hcw, Hux.out.keepNo hcr, hbx, Hz.out⟩
              case measure => simp [intOf]; omega
            · have hl1 : (0 : Int) < last.length := by omega
              cases cv with
              | true =>
                have Hz := Lib.hid (Hyes.out (by rw [Hok.out, hn1]; simp))
                rw [show las = cut by rw [Hls.out]; rfl] at Hz
                clear Hno Hyes Hok Hls hn1
                go_wp2_with (first | (with_reducible refine stop_append ?_) | (with_reducible refine stop_copy ?_) | (with_reducible refine stop_make ?_) | (with_reducible refine stop_lookup ?_) | (with_reducible refine stop_update ?_) | (with_reducible refine stop_slice ?_) | (with_reducible refine stop_range ?_) | (with_reducible refine stop_next ?_) | (with_reducible refine stop_convert ⟨_, rfl⟩ ?_) | (with_reducible refine stop_convertB ⟨_, _, _, rfl⟩ ?_) | (with_reducible refine stop_eqSlice ⟨_, _, rfl⟩ ?_))
                refine (Hcov.out _ hcr).mono ?_
                rintro e w3 ⟨rfl, hc3⟩
                replace g2 := hc3.cell g2 (not_no _)
                go_wp2_with (first | (with_reducible refine stop_append ?_) | (with_reducible refine stop_copy ?_) | (with_reducible refine stop_make ?_) | (with_reducible refine stop_lookup ?_) | (with_reducible refine stop_update ?_) | (with_reducible refine stop_slice ?_) | (with_reducible refine stop_range ?_) | (with_reducible refine stop_next ?_) | (with_reducible refine stop_convert ⟨_, rfl⟩ ?_) | (with_reducible refine stop_convertB ⟨_, _, _, rfl⟩ ?_) | (with_reducible refine stop_eqSlice ⟨_, _, rfl⟩ ?_))
                go_roundw
                case rel => exact ⟨k + 1, cut, by omega, by go_num, by go_num, hcw.trans hc3, (Hux.out.keepNo hcr).keepNo hc3, hbx, Hz.out⟩
                case measure => simp [intOf]; omega
              | false =>
                have Hz := Lib.hid (Hno.out (by rw [Hok.out, hn1, decide_eq_false hl0]; rfl))
                clear Hno Hyes Hok Hls hn1
                go_wp2_with (first | (with_reducible refine stop_append ?_) | (with_reducible refine stop_copy ?_) | (with_reducible refine stop_make ?_) | (with_reducible refine stop_lookup ?_) | (with_reducible refine stop_update ?_) | (with_reducible refine stop_slice ?_) | (with_reducible refine stop_range ?_) | (with_reducible refine stop_next ?_) | (with_reducible refine stop_convert ⟨_, rfl⟩ ?_) | (with_reducible refine stop_convertB ⟨_, _, _, rfl⟩ ?_) | (with_reducible refine stop_eqSlice ⟨_, _, rfl⟩ ?_))
                refine (Hcov.out _ hcr).mono ?_
                rintro e w3 ⟨rfl, hc3⟩
                go_wp2_with (first | (with_reducible refine stop_append ?_) | (with_reducible refine stop_copy ?_) | (with_reducible refine stop_make ?_) | (with_reducible refine stop_lookup ?_) | (with_reducible refine stop_update ?_) | (with_reducible refine stop_slice ?_) | (with_reducible refine stop_range ?_) | (with_reducible refine stop_next ?_) | (with_reducible refine stop_convert ⟨_, rfl⟩ ?_) | (with_reducible refine stop_convertB ⟨_, _, _, rfl⟩ ?_) | (with_reducible refine stop_eqSlice ⟨_, _, rfl⟩ ?_))
                dsimp only [Exit.noGoto]
                go_ret
                exact ⟨by rw [Hz.out]; rfl, hcw.trans hc3⟩
          · have Hz := Lib.hid (Hyes.out (by rw [Hok.out, hn1, decide_eq_false hk1]; rfl))
            rw [show las = last by rw [Hls.out, if_neg hk1]] at Hz
            have hk2 : (kd == 1) = false := by simpa using hk1
            have hk3 : (kd != 1) = true := by simpa using hk1
            clear Hno Hyes Hok Hls hn1 hk1
            go_wp2_with (first | (with_reducible refine stop_append ?_) | (with_reducible refine stop_copy ?_) | (with_reducible refine stop_make ?_) | (with_reducible refine stop_lookup ?_) | (with_reducible refine stop_update ?_) | (with_reducible refine stop_slice ?_) | (with_reducible refine stop_range ?_) | (with_reducible refine stop_next ?_) | (with_reducible refine stop_convert ⟨_, rfl⟩ ?_) | (with_reducible refine stop_convertB ⟨_, _, _, rfl⟩ ?_) | (with_reducible refine stop_eqSlice ⟨_, _, rfl⟩ ?_))
            go_roundw
            case rel => exact ⟨k + 1, last, by omega, by go_num, by go_num, hcw, Hsl.out.keepNo hcr, hll, Hz.out⟩
            case measure => simp [intOf]; omega
        · have Hz := Lib.hid (Hno.out (by rw [Hok.out, decide_eq_false hn]; rfl))
          have hn2 : (n != (k : Int) + 1) = true := by simpa using hn
          have hn3 : (n == (k : Int) + 1) = false := by simpa using hn
          clear Hno Hyes Hok Hls hn
          go_wp2_with (first | (with_reducible refine stop_append ?_) | (with_reducible refine stop_copy ?_) | (with_reducible refine stop_make ?_) | (with_reducible refine stop_lookup ?_) | (with_reducible refine stop_update ?_) | (with_reducible refine stop_slice ?_) | (with_reducible refine stop_range ?_) | (with_reducible refine stop_next ?_) | (with_reducible refine stop_convert ⟨_, rfl⟩ ?_) | (with_reducible refine stop_convertB ⟨_, _, _, rfl⟩ ?_) | (with_reducible refine stop_eqSlice ⟨_, _, rfl⟩ ?_))
          dsimp only [Exit.noGoto]
          go_ret
          exact ⟨by rw [Hz.out]; rfl, hcw⟩
    · obtain rfl : k = l.length := by omega
      rw [List.drop_length] at Hch
      have Hz := Lib.hid Hch.out
      clear Hch
      go_wp2_with (first | (with_reducible refine stop_append ?_) | (with_reducible refine stop_copy ?_) | (with_reducible refine stop_make ?_) | (with_reducible refine stop_lookup ?_) | (with_reducible refine stop_update ?_) | (with_reducible refine stop_slice ?_) | (with_reducible refine stop_range ?_) | (with_reducible refine stop_next ?_) | (with_reducible refine stop_convert ⟨_, rfl⟩ ?_) | (with_reducible refine stop_convertB ⟨_, _, _, rfl⟩ ?_) | (with_reducible refine stop_eqSlice ⟨_, _, rfl⟩ ?_))
      dsimp only [Exit.noGoto]
      go_ret
      exact ⟨by rw [Hz.out]; rfl, hc⟩
end Go.Proofs.Ytbjpoamnglfjeaa

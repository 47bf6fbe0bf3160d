/- Texts RegH, RefV, VecP, RefZ, TerC, RdcA, RdcD, RegI, RegB, RegC, RegD, RegE, RegJ. -/
import Derived.Test.YtbjpoamnglfjeaaMg6
import Derived.Scope
/- Walks of package entry for a register: Chain. -/
set_option linter.unusedVariables false
set_option linter.unusedSimpArgs false
namespace Go.Proofs.Ytbjpoamnglfjeaa
open Go.RowKit Cb

def okE (i : Nat) (last : List Int) (e : Ent) : Bool := entR e && (decide (e.1 = (i : Int) + 1) && (!decide (e.2.1 = 1) || (decide (last.length = 0) || coversB e.2.2.1 last)))
def lastE (last : List Int) (e : Ent) : List Int := if e.2.1 = 1 then e.2.2.1 else last
/-- How many follow one another, and the last cut. -/
def chainF : List Ent → Nat → List Int → Nat × List Int
  | [], i, last => (i, last)
  | e :: r, i, last => if okE i last e = true then chainF r (i + 1) (lastE last e) else (i, last)
theorem chain_yes {l : List Ent} {k : Nat} {last : List Int} (hk : k < l.length) (h : okE k last l[k] = true) : chainF (l.drop k) k last = chainF (l.drop (k + 1)) (k + 1) (lastE last l[k]) := by
  rw [List.drop_eq_getElem_cons hk]; simp only [chainF]; rw [if_pos h]
theorem chain_no {l : List Ent} {k : Nat} {last : List Int} (hk : k < l.length) (h : okE k last l[k] = false) : chainF (l.drop k) k last = (k, last) := by
  rw [List.drop_eq_getElem_cons hk]; simp only [chainF]; rw [if_neg (by rw [h]; simp)]
set_option maxRecDepth 100000 in
set_option maxHeartbeats 2000000 in
theorem chain_any (v : Value) (l : List Ent) (w : World) (h : Sl No w v l) (hl : l.length ≤ 2199023255488) (hcb : ∀ e ∈ l, e.2.2.1.length ≤ 17592186043904) :
    Calls Try.prog 97 #[v] w fun e w' => e = .returned (.int .i64 ((chainF l 0 []).1 : Nat)) ∧ Chg No w w' := by
  obtain ⟨A, c, rfl⟩ := h.slice
  have H := Lib.hid (Sl.up h (Nat.le_refl _))
  have Hcb := Lib.hid hcb
  clear h hcb
  obtain ⟨R, hR⟩ : ∃ R, R = (chainF l 0 []).1 := ⟨_, rfl⟩
  rw [← hR]
  have HR := Lib.hid hR
  clear hR
  go_enter Try.func97, Try.ntmps97
  go_wp2_with (with_reducible first | refine stop_append ?_ | refine stop_copy ?_ | refine stop_make ?_ | refine stop_lookup ?_ | refine stop_update ?_ | refine stop_slice ?_ | refine stop_range ?_ | refine stop_next ?_ | refine stop_convert ⟨_, rfl⟩ ?_ | refine stop_convertB ⟨_, _, _, rfl⟩ ?_ | refine stop_eqSlice ⟨_, _, rfl⟩ ?_)
  refine wp_scope_straight ?_
  go_wp2_with (with_reducible first | refine stop_append ?_ | refine stop_copy ?_ | refine stop_make ?_ | refine stop_lookup ?_ | refine stop_update ?_ | refine stop_slice ?_ | refine stop_range ?_ | refine stop_next ?_ | refine stop_convert ⟨_, rfl⟩ ?_ | refine stop_convertB ⟨_, _, _, rfl⟩ ?_ | refine stop_eqSlice ⟨_, _, rfl⟩ ?_)
  refine wp_label ?_
  go_wp2_with (with_reducible first | refine stop_append ?_ | refine stop_copy ?_ | refine stop_make ?_ | refine stop_lookup ?_ | refine stop_update ?_ | refine stop_slice ?_ | refine stop_range ?_ | refine stop_next ?_ | refine stop_convert ⟨_, rfl⟩ ?_ | refine stop_convertB ⟨_, _, _, rfl⟩ ?_ | refine stop_eqSlice ⟨_, _, rfl⟩ ?_)
  go_loopw [3, 4, 9] (fun v3 v4 v9 wr => ∃ (k : Nat) (last : List Int), k ≤ l.length ∧ v9 = .int .i64 k ∧ v4 = .int .i64 k ∧ Chg No w wr ∧ Sl (Ge w.heap.size) wr v3 last ∧ last.length ≤ 17592186043904 ∧ R = (chainF (l.drop k) k last).1) (fun _ _ v9 _ => l.length - (intOf v9).toNat)
  case atStart => exact ⟨0, [], by omega, rfl, rfl, Chg.refl _ _, Sl.nil _ _ _ _, by simp, HR.out⟩
  case round =>
    obtain ⟨k, last, hk, rfl, rfl, hc, hsl, hll, hch⟩ := hrel
    have Hch := Lib.hid hch
    have Hsl := Lib.hid hsl
    obtain ⟨A3, c3, rfl⟩ := hsl.slice
    clear hch hsl
    by_cases hlt : k < l.length
    · obtain ⟨b, o, vx, rfl, _, hbl, hux, a0, a1, a2, a3, a4, a5⟩ := ent_get (H.out.keepNo hc) k hlt
      have hbx := Hcb.out _ (List.getElem_mem hlt)
      have Hyes := Lib.hid (fun h => Hch.out.trans (congrArg Prod.fst (chain_yes (last := last) hlt h)))
      have Hno := Lib.hid (fun h => Hch.out.trans (congrArg Prod.fst (chain_no (last := last) hlt h)))
      clear Hch
      have hokd : okE k last l[k] = (entR l[k] && (decide (l[k].1 = (k : Int) + 1) && (!decide (l[k].2.1 = 1) || (decide (last.length = 0) || coversB l[k].2.2.1 last)))) := rfl
      have hlsd : lastE last l[k] = if l[k].2.1 = 1 then l[k].2.2.1 else last := rfl
      generalize okE k last l[k] = ok at *
      generalize lastE last l[k] = las at *
      have Hr := Lib.hid (fun W (hW : Chg No wr W) => eright_any _ l[k] vx W (hux.keepNo hW) (by omega))
      have Hcov := Lib.hid (fun W (hW : Chg No wr W) => vcovers_any _ _ vx (.slice A3 last.length c3) _ last W (hux.keepNo hW) (Hsl.out.keepNo hW) (by omega) (by omega))
      generalize entR l[k] = er at *
      generalize coversB l[k].2.2.1 last = cv at *
      generalize l[k] = x at *
      obtain ⟨n, kd, cut, tag, t, p⟩ := x
      unfold entV at Hr
      simp only at *
      obtain ⟨Ax, cx, rfl⟩ := hux.slice
      have Hux := Lib.hid hux
      clear hux
      have Hok := Lib.hid hokd
      have Hls := Lib.hid hlsd
      clear hokd hlsd
      have o1 := alloc_obj wr (.cells #[.int .i64 n, .int .i64 kd, .slice Ax cut.length cx, .int .i64 tag, .int .i64 t, .int .i64 p] 58)
      have hcA := (Chg.refl No wr).alloc (.cells #[.int .i64 n, .int .i64 kd, .slice Ax cut.length cx, .int .i64 tag, .int .i64 t, .int .i64 p] 58)
      have g0 := cell_obj (i := 0) o1 rfl
      have g1 := cell_obj (i := 1) o1 rfl
      have g2 := cell_obj (i := 2) o1 rfl
      have g3 := cell_obj (i := 3) o1 rfl
      have g4 := cell_obj (i := 4) o1 rfl
      have g5 := cell_obj (i := 5) o1 rfl
      clear o1
      go_wp2_with (with_reducible first | refine stop_append ?_ | refine stop_copy ?_ | refine stop_make ?_ | refine stop_lookup ?_ | refine stop_update ?_ | refine stop_slice ?_ | refine stop_range ?_ | refine stop_next ?_ | refine stop_convert ⟨_, rfl⟩ ?_ | refine stop_convertB ⟨_, _, _, rfl⟩ ?_ | refine stop_eqSlice ⟨_, _, rfl⟩ ?_)
      generalize wr.alloc (.cells #[.int .i64 n, .int .i64 kd, .slice Ax cut.length cx, .int .i64 tag, .int .i64 t, .int .i64 p] 58) = w1 at *
      generalize wr.heap.size = q at *
      refine (Hr.out _ hcA).mono ?_
      rintro e w2 ⟨rfl, hc2⟩
      replace g0 := hc2.cell g0 (not_no _)
      replace g1 := hc2.cell g1 (not_no _)
      replace g2 := hc2.cell g2 (not_no _)
      have hcr := hcA.trans hc2
      have hcw := hc.trans hcr
      clear a0 a1 a2 a3 a4 a5 g3 g4 g5 hcA hc2
      cases er with
      | false =>
        have Hz := Lib.hid (Hno.out (by rw [Hok.out]; rfl))
        clear Hno Hyes Hok Hls
        go_wp2_with (with_reducible first | refine stop_append ?_ | refine stop_copy ?_ | refine stop_make ?_ | refine stop_lookup ?_ | refine stop_update ?_ | refine stop_slice ?_ | refine stop_range ?_ | refine stop_next ?_ | refine stop_convert ⟨_, rfl⟩ ?_ | refine stop_convertB ⟨_, _, _, rfl⟩ ?_ | refine stop_eqSlice ⟨_, _, rfl⟩ ?_)
        dsimp only [Exit.noGoto]
        go_ret
        exact ⟨by rw [Hz.out]; rfl, hcw⟩
      | true =>
        by_cases hn : n = (k : Int) + 1
        · have hn1 := decide_eq_true hn
          have hn2 : (n != (k : Int) + 1) = false := by simpa using hn
          have hn3 : (n == (k : Int) + 1) = true := by simpa using hn
          clear hn
          by_cases hk1 : kd = 1
          · subst hk1
            by_cases hl0 : last.length = 0
            · have Hz := Lib.hid (Hyes.out (by rw [Hok.out, hn1, decide_eq_true hl0]; rfl))
              rw [show las = cut by rw [Hls.out]; rfl] at Hz
              clear Hno Hyes Hok Hls hn1
              rw [hl0]
              go_wp2_with (with_reducible first | refine stop_append ?_ | refine stop_copy ?_ | refine stop_make ?_ | refine stop_lookup ?_ | refine stop_update ?_ | refine stop_slice ?_ | refine stop_range ?_ | refine stop_next ?_ | refine stop_convert ⟨_, rfl⟩ ?_ | refine stop_convertB ⟨_, _, _, rfl⟩ ?_ | refine stop_eqSlice ⟨_, _, rfl⟩ ?_)
              go_roundw
              case rel => exact ⟨k + 1, cut, by omega, by go_num, by go_num, hcw, Hux.out.keepNo hcr, hbx, Hz.out⟩
              case measure => simp [intOf]; omega
            · have hl1 : (0 : Int) < last.length := by omega
              cases cv with
              | true =>
                have Hz := Lib.hid (Hyes.out (by rw [Hok.out, hn1]; simp))
                rw [show las = cut by rw [Hls.out]; rfl] at Hz
                clear Hno Hyes Hok Hls hn1
                go_wp2_with (with_reducible first | refine stop_append ?_ | refine stop_copy ?_ | refine stop_make ?_ | refine stop_lookup ?_ | refine stop_update ?_ | refine stop_slice ?_ | refine stop_range ?_ | refine stop_next ?_ | refine stop_convert ⟨_, rfl⟩ ?_ | refine stop_convertB ⟨_, _, _, rfl⟩ ?_ | refine stop_eqSlice ⟨_, _, rfl⟩ ?_)
                refine (Hcov.out _ hcr).mono ?_
                rintro e w3 ⟨rfl, hc3⟩
                replace g2 := hc3.cell g2 (not_no _)
                go_wp2_with (with_reducible first | refine stop_append ?_ | refine stop_copy ?_ | refine stop_make ?_ | refine stop_lookup ?_ | refine stop_update ?_ | refine stop_slice ?_ | refine stop_range ?_ | refine stop_next ?_ | refine stop_convert ⟨_, rfl⟩ ?_ | refine stop_convertB ⟨_, _, _, rfl⟩ ?_ | refine stop_eqSlice ⟨_, _, rfl⟩ ?_)
                go_roundw
                case rel => exact ⟨k + 1, cut, by omega, by go_num, by go_num, hcw.trans hc3, (Hux.out.keepNo hcr).keepNo hc3, hbx, Hz.out⟩
                case measure => simp [intOf]; omega
              | false =>
                have Hz := Lib.hid (Hno.out (by rw [Hok.out, hn1, decide_eq_false hl0]; rfl))
                clear Hno Hyes Hok Hls hn1
                go_wp2_with (with_reducible first | refine stop_append ?_ | refine stop_copy ?_ | refine stop_make ?_ | refine stop_lookup ?_ | refine stop_update ?_ | refine stop_slice ?_ | refine stop_range ?_ | refine stop_next ?_ | refine stop_convert ⟨_, rfl⟩ ?_ | refine stop_convertB ⟨_, _, _, rfl⟩ ?_ | refine stop_eqSlice ⟨_, _, rfl⟩ ?_)
                refine (Hcov.out _ hcr).mono ?_
                rintro e w3 ⟨rfl, hc3⟩
                go_wp2_with (with_reducible first | refine stop_append ?_ | refine stop_copy ?_ | refine stop_make ?_ | refine stop_lookup ?_ | refine stop_update ?_ | refine stop_slice ?_ | refine stop_range ?_ | refine stop_next ?_ | refine stop_convert ⟨_, rfl⟩ ?_ | refine stop_convertB ⟨_, _, _, rfl⟩ ?_ | refine stop_eqSlice ⟨_, _, rfl⟩ ?_)
                dsimp only [Exit.noGoto]
                go_ret
                exact ⟨by rw [Hz.out]; rfl, hcw.trans hc3⟩
          · have Hz := Lib.hid (Hyes.out (by rw [Hok.out, hn1, decide_eq_false hk1]; rfl))
            rw [show las = last by rw [Hls.out, if_neg hk1]] at Hz
            have hk2 : (kd == 1) = false := by simpa using hk1
            have hk3 : (kd != 1) = true := by simpa using hk1
            clear Hno Hyes Hok Hls hn1 hk1
            go_wp2_with (with_reducible first | refine stop_append ?_ | refine stop_copy ?_ | refine stop_make ?_ | refine stop_lookup ?_ | refine stop_update ?_ | refine stop_slice ?_ | refine stop_range ?_ | refine stop_next ?_ | refine stop_convert ⟨_, rfl⟩ ?_ | refine stop_convertB ⟨_, _, _, rfl⟩ ?_ | refine stop_eqSlice ⟨_, _, rfl⟩ ?_)
            go_roundw
            case rel => exact ⟨k + 1, last, by omega, by go_num, by go_num, hcw, Hsl.out.keepNo hcr, hll, Hz.out⟩
            case measure => simp [intOf]; omega
        · have Hz := Lib.hid (Hno.out (by rw [Hok.out, decide_eq_false hn]; rfl))
          have hn2 : (n != (k : Int) + 1) = true := by simpa using hn
          have hn3 : (n == (k : Int) + 1) = false := by simpa using hn
          clear Hno Hyes Hok Hls hn
          go_wp2_with (with_reducible first | refine stop_append ?_ | refine stop_copy ?_ | refine stop_make ?_ | refine stop_lookup ?_ | refine stop_update ?_ | refine stop_slice ?_ | refine stop_range ?_ | refine stop_next ?_ | refine stop_convert ⟨_, rfl⟩ ?_ | refine stop_convertB ⟨_, _, _, rfl⟩ ?_ | refine stop_eqSlice ⟨_, _, rfl⟩ ?_)
          dsimp only [Exit.noGoto]
          go_ret
          exact ⟨by rw [Hz.out]; rfl, hcw⟩
    · obtain rfl : k = l.length := by omega
      rw [List.drop_length] at Hch
      have Hz := Lib.hid Hch.out
      clear Hch
      go_wp2_with (with_reducible first | refine stop_append ?_ | refine stop_copy ?_ | refine stop_make ?_ | refine stop_lookup ?_ | refine stop_update ?_ | refine stop_slice ?_ | refine stop_range ?_ | refine stop_next ?_ | refine stop_convert ⟨_, rfl⟩ ?_ | refine stop_convertB ⟨_, _, _, rfl⟩ ?_ | refine stop_eqSlice ⟨_, _, rfl⟩ ?_)
      dsimp only [Exit.noGoto]
      go_ret
      exact ⟨by rw [Hz.out]; rfl, hc⟩
end Go.Proofs.Ytbjpoamnglfjeaa


/- Walks of the document's vector: Equal. -/
set_option linter.unusedVariables false
set_option linter.unusedSimpArgs false
namespace Go.Proofs.Ytbjpoamnglfjeaa
open Go.RowKit Cb

set_option maxRecDepth 100000 in
set_option maxHeartbeats 1000000 in
theorem requal_any (F G : Nat → Prop) (v u : Value) (xs ys : List Int) (w : World) (h : Sl F w v xs) (h' : Sl G w u ys) (hl : xs.length ≤ 17592186044416) (hl' : ys.length ≤ 17592186044416) :
    Calls Try.prog 28 #[v, u] w fun e w' => e = .returned (.bool (decide (xs = ys))) ∧ Chg No w w' := by
  obtain ⟨A, c, rfl⟩ := h.slice
  obtain ⟨B, d, rfl⟩ := h'.slice
  have H := Lib.hid h; have H' := Lib.hid h'
  clear h h'
  by_cases hlen : xs.length = ys.length
  · go_enter Try.func28, Try.ntmps28
    have Hlen := Lib.hid hlen
    rw [← hlen] at H' hl' ⊢
    clear hlen
    go_wp2_with (with_reducible first | refine stop_append ?_ | refine stop_copy ?_ | refine stop_make ?_ | refine stop_lookup ?_ | refine stop_update ?_ | refine stop_slice ?_ | refine stop_range ?_ | refine stop_next ?_ | refine stop_convert ⟨_, rfl⟩ ?_ | refine stop_convertB ⟨_, _, _, rfl⟩ ?_ | refine stop_eqSlice ⟨_, _, rfl⟩ ?_)
    go_loopw [5] (fun v5 wr => ∃ k : Nat, k ≤ xs.length ∧ v5 = .int .i64 k ∧ Chg No w wr ∧ xs.take k = ys.take k) (fun v5 _ => xs.length - (intOf v5).toNat)
    case atStart => exact ⟨0, by omega, rfl, Chg.refl _ _, rfl⟩
    case round =>
      obtain ⟨k, hk, rfl, hc, he⟩ := hrel
      have He := Lib.hid he; clear he
      by_cases hlt : k < xs.length
      · have hlt' : k < ys.length := by have := Hlen.out; omega
        obtain ⟨b, o, dd, rfl, _, hbl, rfl, ha⟩ := (H.out.keepNo hc).get k hlt
        have ha0 := ha 0 _ rfl
        have hgy : Sl G w (.slice B xs.length d) ys := H'.out
        obtain ⟨b', o', dd', rfl, _, hbl', rfl, hb⟩ := (hgy.keepNo hc).get k hlt'
        have hb0 := hb 0 _ rfl
        simp only [show Rep.n Int = 1 from rfl, Nat.mul_one, Nat.add_zero] at ha0 hb0
        have hsx : xs.take (k + 1) = xs.take k ++ [xs[k]] := List.take_succ_eq_append_getElem hlt
        have hsy : ys.take (k + 1) = ys.take k ++ [ys[k]] := List.take_succ_eq_append_getElem hlt'
        have hxy : xs[k] ≠ ys[k] → xs ≠ ys := fun h e => h (by subst e; rfl)
        clear ha hb hgy
        generalize xs[k] = x at ha0 hsx hxy
        generalize ys[k] = y at hb0 hsy hxy
        have Hsx := Lib.hid hsx; have Hsy := Lib.hid hsy; have Hxy := Lib.hid hxy
        clear hsx hsy hxy
        by_cases hq : x = y
        · subst hq
          go_wp2_with (with_reducible first | refine stop_append ?_ | refine stop_copy ?_ | refine stop_make ?_ | refine stop_lookup ?_ | refine stop_update ?_ | refine stop_slice ?_ | refine stop_range ?_ | refine stop_next ?_ | refine stop_convert ⟨_, rfl⟩ ?_ | refine stop_convertB ⟨_, _, _, rfl⟩ ?_ | refine stop_eqSlice ⟨_, _, rfl⟩ ?_)
          refine reg_start (fun W => W.cell? ⟨b, o + k, none⟩ = some (.int .i64 x) ∧ W.cell? ⟨b', o' + k, none⟩ = some (.int .i64 x)) (by kernel_rfl) ?_
          ((refine reg_yes (i := 0) (oi := { dst := some 17, op := .move (.tmp 0), type := 46, pos := "ref.go:174", after := #[], guard := none }) (v := ?_) rfl (by kernel_rfl) (by kernel_rfl) (by kernel_rfl) (fun _ _ _ h => h) rfl ?_ ?_); rotate_left; focus (intro W hW; (try dsimp only at hW); go_split_ands; go_simp; (try (simp (disch := omega) only [IntWalk.i64_in]; (try go_simp))); (try (split; (next => omega); (try go_simp))); try rfl; done))
          try simp only [Act.put, List.setIfInBounds_toArray, List.set_cons_zero, List.set_cons_succ]
          ((refine reg_yes (i := 1) (oi := { dst := some 18, op := .move (.tmp 5), type := 3, pos := "ref.go:174", after := #[], guard := none }) (v := ?_) rfl (by kernel_rfl) (by kernel_rfl) (by kernel_rfl) (fun _ _ _ h => h) rfl ?_ ?_); rotate_left; focus (intro W hW; (try dsimp only at hW); go_split_ands; go_simp; (try (simp (disch := omega) only [IntWalk.i64_in]; (try go_simp))); (try (split; (next => omega); (try go_simp))); try rfl; done))
          try simp only [Act.put, List.setIfInBounds_toArray, List.set_cons_zero, List.set_cons_succ]
          ((refine reg_yes (i := 2) (oi := { dst := some 19, op := .indexAddr 46 (.tmp 17) (.tmp 18), type := 0, pos := "ref.go:174", after := #[{ on := 0, ground := .data }, { on := 1, ground := .data }], guard := none }) (v := ?_) rfl (by kernel_rfl) (by kernel_rfl) (by kernel_rfl) (fun _ _ _ h => h) rfl ?_ ?_); rotate_left; focus (intro W hW; (try dsimp only at hW); go_split_ands; go_simp; (try (simp (disch := omega) only [IntWalk.i64_in]; (try go_simp))); (try (split; (next => omega); (try go_simp))); try rfl; done))
          try simp only [Act.put, List.setIfInBounds_toArray, List.set_cons_zero, List.set_cons_succ]
          ((refine reg_yes (i := 3) (oi := { dst := some 20, op := .load 3 (.tmp 19), type := 3, pos := "ref.go:174", after := #[{ on := 2, ground := .data }], guard := none }) (v := ?_) rfl (by kernel_rfl) (by kernel_rfl) (by kernel_rfl) (fun _ _ _ h => h) rfl ?_ ?_); rotate_left; focus (intro W hW; (try dsimp only at hW); go_split_ands; go_simp; (try (simp (disch := omega) only [IntWalk.i64_in]; (try go_simp))); (try (split; (next => omega); (try go_simp))); try rfl; done))
          try simp only [Act.put, List.setIfInBounds_toArray, List.set_cons_zero, List.set_cons_succ]
          ((refine reg_yes (i := 4) (oi := { dst := some 21, op := .move (.tmp 1), type := 46, pos := "ref.go:174", after := #[], guard := none }) (v := ?_) rfl (by kernel_rfl) (by kernel_rfl) (by kernel_rfl) (fun _ _ _ h => h) rfl ?_ ?_); rotate_left; focus (intro W hW; (try dsimp only at hW); go_split_ands; go_simp; (try (simp (disch := omega) only [IntWalk.i64_in]; (try go_simp))); (try (split; (next => omega); (try go_simp))); try rfl; done))
          try simp only [Act.put, List.setIfInBounds_toArray, List.set_cons_zero, List.set_cons_succ]
          ((refine reg_yes (i := 5) (oi := { dst := some 22, op := .move (.tmp 5), type := 3, pos := "ref.go:174", after := #[], guard := none }) (v := ?_) rfl (by kernel_rfl) (by kernel_rfl) (by kernel_rfl) (fun _ _ _ h => h) rfl ?_ ?_); rotate_left; focus (intro W hW; (try dsimp only at hW); go_split_ands; go_simp; (try (simp (disch := omega) only [IntWalk.i64_in]; (try go_simp))); (try (split; (next => omega); (try go_simp))); try rfl; done))
          try simp only [Act.put, List.setIfInBounds_toArray, List.set_cons_zero, List.set_cons_succ]
          ((refine reg_yes (i := 6) (oi := { dst := some 23, op := .indexAddr 46 (.tmp 21) (.tmp 22), type := 0, pos := "ref.go:174", after := #[{ on := 4, ground := .data }, { on := 5, ground := .data }], guard := none }) (v := ?_) rfl (by kernel_rfl) (by kernel_rfl) (by kernel_rfl) (fun _ _ _ h => h) rfl ?_ ?_); rotate_left; focus (intro W hW; (try dsimp only at hW); go_split_ands; go_simp; (try (simp (disch := omega) only [IntWalk.i64_in]; (try go_simp))); (try (split; (next => omega); (try go_simp))); try rfl; done))
          try simp only [Act.put, List.setIfInBounds_toArray, List.set_cons_zero, List.set_cons_succ]
          ((refine reg_yes (i := 7) (oi := { dst := some 24, op := .load 3 (.tmp 23), type := 3, pos := "ref.go:174", after := #[{ on := 6, ground := .data }], guard := none }) (v := ?_) rfl (by kernel_rfl) (by kernel_rfl) (by kernel_rfl) (fun _ _ _ h => h) rfl ?_ ?_); rotate_left; focus (intro W hW; (try dsimp only at hW); go_split_ands; go_simp; (try (simp (disch := omega) only [IntWalk.i64_in]; (try go_simp))); (try (split; (next => omega); (try go_simp))); try rfl; done))
          try simp only [Act.put, List.setIfInBounds_toArray, List.set_cons_zero, List.set_cons_succ]
          ((refine reg_yes (i := 8) (oi := { dst := some 25, op := .binOp .neq 3 (.tmp 20) (.tmp 24) 3, type := 4, pos := "ref.go:174", after := #[{ on := 3, ground := .data }, { on := 7, ground := .data }], guard := none }) (v := ?_) rfl (by kernel_rfl) (by kernel_rfl) (by kernel_rfl) (fun _ _ _ h => h) rfl ?_ ?_); rotate_left; focus (intro W hW; (try dsimp only at hW); go_split_ands; go_simp; (try (simp (disch := omega) only [IntWalk.i64_in]; (try go_simp))); (try (split; (next => omega); (try go_simp))); try rfl; done))
          try simp only [Act.put, List.setIfInBounds_toArray, List.set_cons_zero, List.set_cons_succ]
          refine reg_done (by kernel_rfl) (show (fun W => W.cell? ⟨b, o + k, none⟩ = some (.int .i64 x) ∧ W.cell? ⟨b', o' + k, none⟩ = some (.int .i64 x)) wr.drew from ⟨ha0, hb0⟩) ?_
          have hcd := hc.drew
          go_wp2_with (with_reducible first | refine stop_append ?_ | refine stop_copy ?_ | refine stop_make ?_ | refine stop_lookup ?_ | refine stop_update ?_ | refine stop_slice ?_ | refine stop_range ?_ | refine stop_next ?_ | refine stop_convert ⟨_, rfl⟩ ?_ | refine stop_convertB ⟨_, _, _, rfl⟩ ?_ | refine stop_eqSlice ⟨_, _, rfl⟩ ?_)
          go_roundw
          case rel => exact ⟨k + 1, by omega, by go_num, hcd, by rw [Hsx.out, Hsy.out, He.out]⟩
          case measure => simp [intOf]; omega
        · have hq1 : (x == y) = false := by simpa using hq
          have hq2 : (x != y) = true := by simpa using hq
          have Hq := Lib.hid hq
          clear hq
          go_wp2_with (with_reducible first | refine stop_append ?_ | refine stop_copy ?_ | refine stop_make ?_ | refine stop_lookup ?_ | refine stop_update ?_ | refine stop_slice ?_ | refine stop_range ?_ | refine stop_next ?_ | refine stop_convert ⟨_, rfl⟩ ?_ | refine stop_convertB ⟨_, _, _, rfl⟩ ?_ | refine stop_eqSlice ⟨_, _, rfl⟩ ?_)
          refine reg_start (fun W => W.cell? ⟨b, o + k, none⟩ = some (.int .i64 x) ∧ W.cell? ⟨b', o' + k, none⟩ = some (.int .i64 y)) (by kernel_rfl) ?_
          ((refine reg_yes (i := 0) (oi := { dst := some 17, op := .move (.tmp 0), type := 46, pos := "ref.go:174", after := #[], guard := none }) (v := ?_) rfl (by kernel_rfl) (by kernel_rfl) (by kernel_rfl) (fun _ _ _ h => h) rfl ?_ ?_); rotate_left; focus (intro W hW; (try dsimp only at hW); go_split_ands; go_simp; (try (simp (disch := omega) only [IntWalk.i64_in]; (try go_simp))); (try (split; (next => omega); (try go_simp))); try rfl; done))
          try simp only [Act.put, List.setIfInBounds_toArray, List.set_cons_zero, List.set_cons_succ]
          ((refine reg_yes (i := 1) (oi := { dst := some 18, op := .move (.tmp 5), type := 3, pos := "ref.go:174", after := #[], guard := none }) (v := ?_) rfl (by kernel_rfl) (by kernel_rfl) (by kernel_rfl) (fun _ _ _ h => h) rfl ?_ ?_); rotate_left; focus (intro W hW; (try dsimp only at hW); go_split_ands; go_simp; (try (simp (disch := omega) only [IntWalk.i64_in]; (try go_simp))); (try (split; (next => omega); (try go_simp))); try rfl; done))
          try simp only [Act.put, List.setIfInBounds_toArray, List.set_cons_zero, List.set_cons_succ]
          ((refine reg_yes (i := 2) (oi := { dst := some 19, op := .indexAddr 46 (.tmp 17) (.tmp 18), type := 0, pos := "ref.go:174", after := #[{ on := 0, ground := .data }, { on := 1, ground := .data }], guard := none }) (v := ?_) rfl (by kernel_rfl) (by kernel_rfl) (by kernel_rfl) (fun _ _ _ h => h) rfl ?_ ?_); rotate_left; focus (intro W hW; (try dsimp only at hW); go_split_ands; go_simp; (try (simp (disch := omega) only [IntWalk.i64_in]; (try go_simp))); (try (split; (next => omega); (try go_simp))); try rfl; done))
          try simp only [Act.put, List.setIfInBounds_toArray, List.set_cons_zero, List.set_cons_succ]
          ((refine reg_yes (i := 3) (oi := { dst := some 20, op := .load 3 (.tmp 19), type := 3, pos := "ref.go:174", after := #[{ on := 2, ground := .data }], guard := none }) (v := ?_) rfl (by kernel_rfl) (by kernel_rfl) (by kernel_rfl) (fun _ _ _ h => h) rfl ?_ ?_); rotate_left; focus (intro W hW; (try dsimp only at hW); go_split_ands; go_simp; (try (simp (disch := omega) only [IntWalk.i64_in]; (try go_simp))); (try (split; (next => omega); (try go_simp))); try rfl; done))
          try simp only [Act.put, List.setIfInBounds_toArray, List.set_cons_zero, List.set_cons_succ]
          ((refine reg_yes (i := 4) (oi := { dst := some 21, op := .move (.tmp 1), type := 46, pos := "ref.go:174", after := #[], guard := none }) (v := ?_) rfl (by kernel_rfl) (by kernel_rfl) (by kernel_rfl) (fun _ _ _ h => h) rfl ?_ ?_); rotate_left; focus (intro W hW; (try dsimp only at hW); go_split_ands; go_simp; (try (simp (disch := omega) only [IntWalk.i64_in]; (try go_simp))); (try (split; (next => omega); (try go_simp))); try rfl; done))
          try simp only [Act.put, List.setIfInBounds_toArray, List.set_cons_zero, List.set_cons_succ]
          ((refine reg_yes (i := 5) (oi := { dst := some 22, op := .move (.tmp 5), type := 3, pos := "ref.go:174", after := #[], guard := none }) (v := ?_) rfl (by kernel_rfl) (by kernel_rfl) (by kernel_rfl) (fun _ _ _ h => h) rfl ?_ ?_); rotate_left; focus (intro W hW; (try dsimp only at hW); go_split_ands; go_simp; (try (simp (disch := omega) only [IntWalk.i64_in]; (try go_simp))); (try (split; (next => omega); (try go_simp))); try rfl; done))
          try simp only [Act.put, List.setIfInBounds_toArray, List.set_cons_zero, List.set_cons_succ]
          ((refine reg_yes (i := 6) (oi := { dst := some 23, op := .indexAddr 46 (.tmp 21) (.tmp 22), type := 0, pos := "ref.go:174", after := #[{ on := 4, ground := .data }, { on := 5, ground := .data }], guard := none }) (v := ?_) rfl (by kernel_rfl) (by kernel_rfl) (by kernel_rfl) (fun _ _ _ h => h) rfl ?_ ?_); rotate_left; focus (intro W hW; (try dsimp only at hW); go_split_ands; go_simp; (try (simp (disch := omega) only [IntWalk.i64_in]; (try go_simp))); (try (split; (next => omega); (try go_simp))); try rfl; done))
          try simp only [Act.put, List.setIfInBounds_toArray, List.set_cons_zero, List.set_cons_succ]
          ((refine reg_yes (i := 7) (oi := { dst := some 24, op := .load 3 (.tmp 23), type := 3, pos := "ref.go:174", after := #[{ on := 6, ground := .data }], guard := none }) (v := ?_) rfl (by kernel_rfl) (by kernel_rfl) (by kernel_rfl) (fun _ _ _ h => h) rfl ?_ ?_); rotate_left; focus (intro W hW; (try dsimp only at hW); go_split_ands; go_simp; (try (simp (disch := omega) only [IntWalk.i64_in]; (try go_simp))); (try (split; (next => omega); (try go_simp))); try rfl; done))
          try simp only [Act.put, List.setIfInBounds_toArray, List.set_cons_zero, List.set_cons_succ]
          ((refine reg_yes (i := 8) (oi := { dst := some 25, op := .binOp .neq 3 (.tmp 20) (.tmp 24) 3, type := 4, pos := "ref.go:174", after := #[{ on := 3, ground := .data }, { on := 7, ground := .data }], guard := none }) (v := ?_) rfl (by kernel_rfl) (by kernel_rfl) (by kernel_rfl) (fun _ _ _ h => h) rfl ?_ ?_); rotate_left; focus (intro W hW; (try dsimp only at hW); go_split_ands; go_simp; (try (simp (disch := omega) only [IntWalk.i64_in]; (try go_simp))); (try (split; (next => omega); (try go_simp))); try rfl; done))
          try simp only [Act.put, List.setIfInBounds_toArray, List.set_cons_zero, List.set_cons_succ]
          refine reg_done (by kernel_rfl) (show (fun W => W.cell? ⟨b, o + k, none⟩ = some (.int .i64 x) ∧ W.cell? ⟨b', o' + k, none⟩ = some (.int .i64 y)) wr.drew from ⟨ha0, hb0⟩) ?_
          have hcd := hc.drew
          go_wp2_with (with_reducible first | refine stop_append ?_ | refine stop_copy ?_ | refine stop_make ?_ | refine stop_lookup ?_ | refine stop_update ?_ | refine stop_slice ?_ | refine stop_range ?_ | refine stop_next ?_ | refine stop_convert ⟨_, rfl⟩ ?_ | refine stop_convertB ⟨_, _, _, rfl⟩ ?_ | refine stop_eqSlice ⟨_, _, rfl⟩ ?_)
          go_ret
          exact ⟨by simp [Hxy.out Hq.out], hcd⟩
      · obtain rfl : k = xs.length := by omega
        have he := He.out
        rw [List.take_length, Hlen.out, List.take_length] at he
        have Heq := Lib.hid he
        clear he He
        go_wp2_with (with_reducible first | refine stop_append ?_ | refine stop_copy ?_ | refine stop_make ?_ | refine stop_lookup ?_ | refine stop_update ?_ | refine stop_slice ?_ | refine stop_range ?_ | refine stop_next ?_ | refine stop_convert ⟨_, rfl⟩ ?_ | refine stop_convertB ⟨_, _, _, rfl⟩ ?_ | refine stop_eqSlice ⟨_, _, rfl⟩ ?_)
        go_ret
        exact ⟨by simp [Heq.out], hc⟩
  · have hne : ((xs.length : Int) != ys.length) = true := by simp; omega
    have hne2 : ((xs.length : Int) == ys.length) = false := by simp; omega
    have Hn := Lib.hid (show xs ≠ ys from fun e => hlen (by rw [e]))
    clear hlen
    go_enter Try.func28, Try.ntmps28
    go_wp2_with (with_reducible first | refine stop_append ?_ | refine stop_copy ?_ | refine stop_make ?_ | refine stop_lookup ?_ | refine stop_update ?_ | refine stop_slice ?_ | refine stop_range ?_ | refine stop_next ?_ | refine stop_convert ⟨_, rfl⟩ ?_ | refine stop_convertB ⟨_, _, _, rfl⟩ ?_ | refine stop_eqSlice ⟨_, _, rfl⟩ ?_)
    go_ret
    exact ⟨by simp [Hn.out], Chg.refl _ _⟩
end Go.Proofs.Ytbjpoamnglfjeaa


/- Vectors in plain words: laws of the greater, the lesser, the difference. -/
set_option linter.unusedVariables false
set_option linter.unusedSimpArgs false
namespace Go.Proofs.Ytbjpoamnglfjeaa
open Go.RowKit Cb

theorem kind_iff {a b : List Int} : kindB a b = true ↔ vright a = true ∧ vright b = true ∧ a.length = b.length := by
  simp [kindB, and_assoc]
theorem covers_at {a b : List Int} : coversB a b = true ↔ kindB a b = true ∧ ∀ i (h : i < a.length) (h' : i < b.length), b[i] ≤ a[i] := by
  rw [covers_iff, kind_iff, geq_iff]
  constructor
  · rintro ⟨h1, h2, h3, h4⟩; exact ⟨⟨h1, h2, h3⟩, h4⟩
  · rintro ⟨⟨h1, h2, h3⟩, h4⟩; exact ⟨h1, h2, h3, h4⟩
end Go.Proofs.Ytbjpoamnglfjeaa


/- Walks of the document's vector: Right, Kind, Covers, Same, Total, Max, Min, Gain, Set. -/
set_option linter.unusedVariables false
set_option linter.unusedSimpArgs false
namespace Go.Proofs.Ytbjpoamnglfjeaa
open Go.RowKit Cb

/-- One number of a row, its slice value as it is. -/
theorem num_in {F : Nat → Prop} {w : World} {A : Option Addr} {n c : Nat} {l : List Int} (h : Sl F w (.slice A n c) l) (k : Nat) (hk : k < l.length) :
    ∃ b o, A = some ⟨b, o, none⟩ ∧ ¬ F b ∧ b < w.heap.size ∧ w.cell? ⟨b, o + k, none⟩ = some (.int .i64 l[k]) := by
  obtain ⟨b, o, d, rfl, hF, hb, rfl, ha⟩ := h.get k hk
  refine ⟨b, o, rfl, hF, hb, ?_⟩
  have := ha 0 _ rfl
  simpa [show Rep.n Int = 1 from rfl] using this
theorem may_iff {n : Int} : mayB n = true ↔ 0 ≤ n ∧ n ≤ 1099511627776 := by simp [mayB]
theorem vright_all {xs : List Int} : vright xs = (xs.all mayB && (decide (1 ≤ xs.length) && decide (xs.length ≤ 8))) := by
  have e : (!(xs.any (fun n => !mayB n))) = xs.all mayB := by
    rw [Bool.eq_iff_iff]; simp
  unfold vright
  rw [e]
  cases xs.all mayB <;> cases decide (1 ≤ xs.length) <;> cases decide (xs.length ≤ 8) <;> rfl
set_option maxRecDepth 100000 in
set_option maxHeartbeats 1000000 in
theorem rright_any (F : Nat → Prop) (v : Value) (xs : List Int) (w : World) (h : Sl F w v xs) (hl : xs.length * 8 ≤ 140737488355328) :
    Calls Try.prog 114 #[v] w fun e w' => e = .returned (.bool (vright xs)) ∧ Chg No w w' := by
  obtain ⟨A, c, rfl⟩ := h.slice
  have H := Lib.hid h
  clear h
  go_enter Try.func114, Try.ntmps114
  go_wp2_with (with_reducible first | refine stop_append ?_ | refine stop_copy ?_ | refine stop_make ?_ | refine stop_lookup ?_ | refine stop_update ?_ | refine stop_slice ?_ | refine stop_range ?_ | refine stop_next ?_ | refine stop_convert ⟨_, rfl⟩ ?_ | refine stop_convertB ⟨_, _, _, rfl⟩ ?_ | refine stop_eqSlice ⟨_, _, rfl⟩ ?_)
  go_loopw [3] (fun v3 wr => ∃ k : Nat, k ≤ xs.length ∧ v3 = .int .i64 k ∧ Chg No w wr ∧ ∀ i (h : i < xs.length), i < k → mayB xs[i] = true) (fun v3 _ => xs.length - (intOf v3).toNat)
  case atStart => exact ⟨0, by omega, rfl, Chg.refl _ _, fun _ _ h => by omega⟩
  case round =>
    obtain ⟨k, hk, rfl, hc, hall⟩ := hrel
    have Hall := Lib.hid hall
    clear hall
    by_cases hlt : k < xs.length
    · obtain ⟨b, o, rfl, _, hbl, a0⟩ := num_in (H.out.keepNo hc) k hlt
      have Hbad := Lib.hid (show mayB xs[k] = false → vright xs = false from fun hm => by
        rw [vright_all, Bool.and_eq_false_iff]; left
        rw [List.all_eq_false]
        exact ⟨_, List.getElem_mem hlt, by simp [hm]⟩)
      have Hgo := Lib.hid (show mayB xs[k] = true → ∀ i (h : i < xs.length), i < k + 1 → mayB xs[i] = true from fun hm i h hi => by
        rcases Nat.lt_or_ge i k with h' | h'
        · exact Hall.out i h h'
        · obtain rfl : i = k := by omega
          exact hm)
      generalize xs[k] = x at *
      by_cases h0 : x < 0
      · have Hr := Lib.hid (Hbad.out (by simp [mayB]; omega))
        go_wp2_with (with_reducible first | refine stop_append ?_ | refine stop_copy ?_ | refine stop_make ?_ | refine stop_lookup ?_ | refine stop_update ?_ | refine stop_slice ?_ | refine stop_range ?_ | refine stop_next ?_ | refine stop_convert ⟨_, rfl⟩ ?_ | refine stop_convertB ⟨_, _, _, rfl⟩ ?_ | refine stop_eqSlice ⟨_, _, rfl⟩ ?_)
        go_ret
        rw [Hr.out]
        exact ⟨rfl, hc⟩
      · by_cases h1 : 1099511627776 < x
        · have Hr := Lib.hid (Hbad.out (by simp [mayB]; omega))
          go_wp2_with (with_reducible first | refine stop_append ?_ | refine stop_copy ?_ | refine stop_make ?_ | refine stop_lookup ?_ | refine stop_update ?_ | refine stop_slice ?_ | refine stop_range ?_ | refine stop_next ?_ | refine stop_convert ⟨_, rfl⟩ ?_ | refine stop_convertB ⟨_, _, _, rfl⟩ ?_ | refine stop_eqSlice ⟨_, _, rfl⟩ ?_)
          go_ret
          rw [Hr.out]
          exact ⟨rfl, hc⟩
        · have Hr := Lib.hid (Hgo.out (may_iff.2 ⟨by omega, by omega⟩))
          go_wp2_with (with_reducible first | refine stop_append ?_ | refine stop_copy ?_ | refine stop_make ?_ | refine stop_lookup ?_ | refine stop_update ?_ | refine stop_slice ?_ | refine stop_range ?_ | refine stop_next ?_ | refine stop_convert ⟨_, rfl⟩ ?_ | refine stop_convertB ⟨_, _, _, rfl⟩ ?_ | refine stop_eqSlice ⟨_, _, rfl⟩ ?_)
          go_roundw
          case rel => exact ⟨k + 1, by omega, by go_num, hc, Hr.out⟩
          case measure => simp [intOf]; omega
    · obtain rfl : k = xs.length := by omega
      have hall : xs.all mayB = true := List.all_eq_true.2 (fun x hx => by
        obtain ⟨i, hi, rfl⟩ := List.mem_iff_getElem.1 hx
        exact Hall.out i hi hi)
      have Hr := Lib.hid (show vright xs = (decide (1 ≤ xs.length) && decide (xs.length ≤ 8)) by rw [vright_all, hall]; rfl)
      clear hall
      by_cases h1 : 1 ≤ xs.length
      · by_cases h8 : xs.length ≤ 8
        · go_wp2_with (with_reducible first | refine stop_append ?_ | refine stop_copy ?_ | refine stop_make ?_ | refine stop_lookup ?_ | refine stop_update ?_ | refine stop_slice ?_ | refine stop_range ?_ | refine stop_next ?_ | refine stop_convert ⟨_, rfl⟩ ?_ | refine stop_convertB ⟨_, _, _, rfl⟩ ?_ | refine stop_eqSlice ⟨_, _, rfl⟩ ?_)
          go_ret
          rw [Hr.out]
          exact ⟨by simp [h1, h8]; try omega, hc⟩
        · go_wp2_with (with_reducible first | refine stop_append ?_ | refine stop_copy ?_ | refine stop_make ?_ | refine stop_lookup ?_ | refine stop_update ?_ | refine stop_slice ?_ | refine stop_range ?_ | refine stop_next ?_ | refine stop_convert ⟨_, rfl⟩ ?_ | refine stop_convertB ⟨_, _, _, rfl⟩ ?_ | refine stop_eqSlice ⟨_, _, rfl⟩ ?_)
          go_ret
          rw [Hr.out]
          exact ⟨by simp [h1, h8]; try omega, hc⟩
      · have hx0 : xs.length = 0 := by omega
        have Hr2 := Lib.hid (show vright xs = false by rw [Hr.out]; simp; omega)
        go_wp2_with (with_reducible first | refine stop_append ?_ | refine stop_copy ?_ | refine stop_make ?_ | refine stop_lookup ?_ | refine stop_update ?_ | refine stop_slice ?_ | refine stop_range ?_ | refine stop_next ?_ | refine stop_convert ⟨_, rfl⟩ ?_ | refine stop_convertB ⟨_, _, _, rfl⟩ ?_ | refine stop_eqSlice ⟨_, _, rfl⟩ ?_)
        go_ret
        rw [Hr2.out]
        exact ⟨by simp, hc⟩
theorem rkind_any (F G : Nat → Prop) (v u : Value) (xs ys : List Int) (w : World) (hs : Sl F w v xs) (ht : Sl G w u ys) (hl : xs.length * 8 ≤ 140737488355328) (hl' : ys.length * 8 ≤ 140737488355328) :
    Calls Try.prog 117 #[v, u] w fun e w' => e = .returned (.bool (kindB xs ys)) ∧ Chg No w w' := by
  have Hx := Lib.hid (rright_any F v xs w hs hl)
  have Hy := Lib.hid (fun W (hW : Chg No w W) => rright_any G u ys W (ht.keepNo hW) hl')
  obtain ⟨A, c, rfl⟩ := hs.slice
  obtain ⟨B, d, rfl⟩ := ht.slice
  clear hs ht
  cases hx : vright xs with
  | false =>
    rw [hx] at Hx
    have Hr := Lib.hid (show kindB xs ys = false by simp [kindB, hx])
    clear hx
    go_enter Try.func117, Try.ntmps117
    go_wp2_with (with_reducible first | refine stop_append ?_ | refine stop_copy ?_ | refine stop_make ?_ | refine stop_lookup ?_ | refine stop_update ?_ | refine stop_slice ?_ | refine stop_range ?_ | refine stop_next ?_ | refine stop_convert ⟨_, rfl⟩ ?_ | refine stop_convertB ⟨_, _, _, rfl⟩ ?_ | refine stop_eqSlice ⟨_, _, rfl⟩ ?_)
    refine Hx.out.mono ?_
    rintro e w1 ⟨rfl, hc1⟩
    go_wp2_with (with_reducible first | refine stop_append ?_ | refine stop_copy ?_ | refine stop_make ?_ | refine stop_lookup ?_ | refine stop_update ?_ | refine stop_slice ?_ | refine stop_range ?_ | refine stop_next ?_ | refine stop_convert ⟨_, rfl⟩ ?_ | refine stop_convertB ⟨_, _, _, rfl⟩ ?_ | refine stop_eqSlice ⟨_, _, rfl⟩ ?_)
    go_ret
    rw [Hr.out]; exact ⟨rfl, hc1⟩
  | true =>
    cases hy : vright ys with
    | false =>
      rw [hx] at Hx
      rw [hy] at Hy
      have Hr := Lib.hid (show kindB xs ys = false by simp [kindB, hy])
      clear hx hy
      go_enter Try.func117, Try.ntmps117
      go_wp2_with (with_reducible first | refine stop_append ?_ | refine stop_copy ?_ | refine stop_make ?_ | refine stop_lookup ?_ | refine stop_update ?_ | refine stop_slice ?_ | refine stop_range ?_ | refine stop_next ?_ | refine stop_convert ⟨_, rfl⟩ ?_ | refine stop_convertB ⟨_, _, _, rfl⟩ ?_ | refine stop_eqSlice ⟨_, _, rfl⟩ ?_)
      refine Hx.out.mono ?_
      rintro e w1 ⟨rfl, hc1⟩
      go_wp2_with (with_reducible first | refine stop_append ?_ | refine stop_copy ?_ | refine stop_make ?_ | refine stop_lookup ?_ | refine stop_update ?_ | refine stop_slice ?_ | refine stop_range ?_ | refine stop_next ?_ | refine stop_convert ⟨_, rfl⟩ ?_ | refine stop_convertB ⟨_, _, _, rfl⟩ ?_ | refine stop_eqSlice ⟨_, _, rfl⟩ ?_)
      refine (Hy.out _ hc1).mono ?_
      rintro e w2 ⟨rfl, hc2⟩
      go_wp2_with (with_reducible first | refine stop_append ?_ | refine stop_copy ?_ | refine stop_make ?_ | refine stop_lookup ?_ | refine stop_update ?_ | refine stop_slice ?_ | refine stop_range ?_ | refine stop_next ?_ | refine stop_convert ⟨_, rfl⟩ ?_ | refine stop_convertB ⟨_, _, _, rfl⟩ ?_ | refine stop_eqSlice ⟨_, _, rfl⟩ ?_)
      go_ret
      rw [Hr.out]; exact ⟨rfl, hc1.trans hc2⟩
    | true =>
      rw [hx] at Hx
      rw [hy] at Hy
      have Hr := Lib.hid (show kindB xs ys = decide (xs.length = ys.length) by simp [kindB, hx, hy])
      clear hx hy
      go_enter Try.func117, Try.ntmps117
      go_wp2_with (with_reducible first | refine stop_append ?_ | refine stop_copy ?_ | refine stop_make ?_ | refine stop_lookup ?_ | refine stop_update ?_ | refine stop_slice ?_ | refine stop_range ?_ | refine stop_next ?_ | refine stop_convert ⟨_, rfl⟩ ?_ | refine stop_convertB ⟨_, _, _, rfl⟩ ?_ | refine stop_eqSlice ⟨_, _, rfl⟩ ?_)
      refine Hx.out.mono ?_
      rintro e w1 ⟨rfl, hc1⟩
      go_wp2_with (with_reducible first | refine stop_append ?_ | refine stop_copy ?_ | refine stop_make ?_ | refine stop_lookup ?_ | refine stop_update ?_ | refine stop_slice ?_ | refine stop_range ?_ | refine stop_next ?_ | refine stop_convert ⟨_, rfl⟩ ?_ | refine stop_convertB ⟨_, _, _, rfl⟩ ?_ | refine stop_eqSlice ⟨_, _, rfl⟩ ?_)
      refine (Hy.out _ hc1).mono ?_
      rintro e w2 ⟨rfl, hc2⟩
      go_wp2_with (with_reducible first | refine stop_append ?_ | refine stop_copy ?_ | refine stop_make ?_ | refine stop_lookup ?_ | refine stop_update ?_ | refine stop_slice ?_ | refine stop_range ?_ | refine stop_next ?_ | refine stop_convert ⟨_, rfl⟩ ?_ | refine stop_convertB ⟨_, _, _, rfl⟩ ?_ | refine stop_eqSlice ⟨_, _, rfl⟩ ?_)
      go_ret
      rw [Hr.out]
      refine ⟨?_, hc1.trans hc2⟩
      by_cases he : xs.length = ys.length
      · simp [he]
      · simp [he]; try omega
set_option maxRecDepth 100000 in
set_option maxHeartbeats 1000000 in
theorem rcovers_any (F G : Nat → Prop) (v u : Value) (xs ys : List Int) (w : World) (hs : Sl F w v xs) (ht : Sl G w u ys) (hl : xs.length * 8 ≤ 140737488355328) (hl' : ys.length * 8 ≤ 140737488355328) :
    Calls Try.prog 113 #[v, u] w fun e w' => e = .returned (.bool (coversB xs ys)) ∧ Chg No w w' := by
  have Hk := Lib.hid (rkind_any F G v u xs ys w hs ht hl hl')
  have H := Lib.hid hs
  have H' := Lib.hid ht
  obtain ⟨A, c, rfl⟩ := hs.slice
  obtain ⟨B, d, rfl⟩ := ht.slice
  clear hs ht
  cases hk : kindB xs ys with
  | false =>
    rw [hk] at Hk
    have Hr := Lib.hid (show coversB xs ys = false by simp [coversB, hk])
    clear hk
    go_enter Try.func113, Try.ntmps113
    go_wp2_with (with_reducible first | refine stop_append ?_ | refine stop_copy ?_ | refine stop_make ?_ | refine stop_lookup ?_ | refine stop_update ?_ | refine stop_slice ?_ | refine stop_range ?_ | refine stop_next ?_ | refine stop_convert ⟨_, rfl⟩ ?_ | refine stop_convertB ⟨_, _, _, rfl⟩ ?_ | refine stop_eqSlice ⟨_, _, rfl⟩ ?_)
    refine Hk.out.mono ?_
    rintro e w1 ⟨rfl, hc1⟩
    go_wp2_with (with_reducible first | refine stop_append ?_ | refine stop_copy ?_ | refine stop_make ?_ | refine stop_lookup ?_ | refine stop_update ?_ | refine stop_slice ?_ | refine stop_range ?_ | refine stop_next ?_ | refine stop_convert ⟨_, rfl⟩ ?_ | refine stop_convertB ⟨_, _, _, rfl⟩ ?_ | refine stop_eqSlice ⟨_, _, rfl⟩ ?_)
    go_ret
    rw [Hr.out]; exact ⟨rfl, hc1⟩
  | true =>
    rw [hk] at Hk
    have Hkk := Lib.hid hk
    have Hlen := Lib.hid (kind_iff.1 hk).2.2
    have hx8 := (vright_iff.1 (kind_iff.1 hk).1).2.1
    rw [← (kind_iff.1 hk).2.2] at H' Hk ⊢
    clear hk hl'
    go_enter Try.func113, Try.ntmps113
    go_wp2_with (with_reducible first | refine stop_append ?_ | refine stop_copy ?_ | refine stop_make ?_ | refine stop_lookup ?_ | refine stop_update ?_ | refine stop_slice ?_ | refine stop_range ?_ | refine stop_next ?_ | refine stop_convert ⟨_, rfl⟩ ?_ | refine stop_convertB ⟨_, _, _, rfl⟩ ?_ | refine stop_eqSlice ⟨_, _, rfl⟩ ?_)
    refine Hk.out.mono ?_
    rintro e w1 ⟨rfl, hc1⟩
    go_wp2_with (with_reducible first | refine stop_append ?_ | refine stop_copy ?_ | refine stop_make ?_ | refine stop_lookup ?_ | refine stop_update ?_ | refine stop_slice ?_ | refine stop_range ?_ | refine stop_next ?_ | refine stop_convert ⟨_, rfl⟩ ?_ | refine stop_convertB ⟨_, _, _, rfl⟩ ?_ | refine stop_eqSlice ⟨_, _, rfl⟩ ?_)
    go_loopw [5] (fun v5 wr => ∃ k : Nat, k ≤ xs.length ∧ v5 = .int .i64 k ∧ Chg No w wr ∧ ∀ i (h : i < xs.length) (h' : i < ys.length), i < k → ys[i] ≤ xs[i]) (fun v5 _ => xs.length - (intOf v5).toNat)
    case atStart => exact ⟨0, by omega, rfl, hc1, fun _ _ _ h => by omega⟩
    case round =>
      obtain ⟨k, hk, rfl, hc, hall⟩ := hrel
      have Hall := Lib.hid hall
      clear hall
      by_cases hlt : k < xs.length
      · have hlt' : k < ys.length := by have := Hlen.out; omega
        obtain ⟨b, o, rfl, _, hbl, a0⟩ := num_in (H.out.keepNo hc) k hlt
        have hgy : Sl G w (.slice B xs.length d) ys := H'.out
        obtain ⟨b', o', rfl, _, hbl', b0⟩ := num_in (hgy.keepNo hc) k hlt'
        have Hbad := Lib.hid (show xs[k] < ys[k] → coversB xs ys = false from fun h => by
          rw [Bool.eq_false_iff]
          intro hcv
          have := (covers_at.1 hcv).2 k hlt hlt'
          omega)
        have Hgo := Lib.hid (show ¬ xs[k] < ys[k] → ∀ i (h : i < xs.length) (h' : i < ys.length), i < k + 1 → ys[i] ≤ xs[i] from fun hm i h h' hi => by
          rcases Nat.lt_or_ge i k with hik | hik
          · exact Hall.out i h h' hik
          · obtain rfl : i = k := by omega
            omega)
        clear hgy
        generalize xs[k] = x at *
        generalize ys[k] = y at *
        by_cases hxy : x < y
        · have Hr := Lib.hid (Hbad.out hxy)
          go_wp2_with (with_reducible first | refine stop_append ?_ | refine stop_copy ?_ | refine stop_make ?_ | refine stop_lookup ?_ | refine stop_update ?_ | refine stop_slice ?_ | refine stop_range ?_ | refine stop_next ?_ | refine stop_convert ⟨_, rfl⟩ ?_ | refine stop_convertB ⟨_, _, _, rfl⟩ ?_ | refine stop_eqSlice ⟨_, _, rfl⟩ ?_)
          refine reg_start (fun W => W.cell? ⟨b, o + k, none⟩ = some (.int .i64 x) ∧ W.cell? ⟨b', o' + k, none⟩ = some (.int .i64 y)) (by kernel_rfl) ?_
          ((refine reg_yes (i := 0) (oi := { dst := some 16, op := .move (.tmp 0), type := 46, pos := "ref.go:60", after := #[], guard := none }) (v := ?_) rfl (by kernel_rfl) (by kernel_rfl) (by kernel_rfl) (fun _ _ _ h => h) rfl ?_ ?_); rotate_left; focus (intro W hW; (try dsimp only at hW); go_split_ands; go_simp; (try (simp (disch := omega) only [IntWalk.i64_in]; (try go_simp))); (try (split; (next => omega); (try go_simp))); try rfl; done))
          try simp only [Act.put, List.setIfInBounds_toArray, List.set_cons_zero, List.set_cons_succ]
          ((refine reg_yes (i := 1) (oi := { dst := some 17, op := .move (.tmp 5), type := 3, pos := "ref.go:60", after := #[], guard := none }) (v := ?_) rfl (by kernel_rfl) (by kernel_rfl) (by kernel_rfl) (fun _ _ _ h => h) rfl ?_ ?_); rotate_left; focus (intro W hW; (try dsimp only at hW); go_split_ands; go_simp; (try (simp (disch := omega) only [IntWalk.i64_in]; (try go_simp))); (try (split; (next => omega); (try go_simp))); try rfl; done))
          try simp only [Act.put, List.setIfInBounds_toArray, List.set_cons_zero, List.set_cons_succ]
          ((refine reg_yes (i := 2) (oi := { dst := some 18, op := .indexAddr 46 (.tmp 16) (.tmp 17), type := 0, pos := "ref.go:60", after := #[{ on := 0, ground := .data }, { on := 1, ground := .data }], guard := none }) (v := ?_) rfl (by kernel_rfl) (by kernel_rfl) (by kernel_rfl) (fun _ _ _ h => h) rfl ?_ ?_); rotate_left; focus (intro W hW; (try dsimp only at hW); go_split_ands; go_simp; (try (simp (disch := omega) only [IntWalk.i64_in]; (try go_simp))); (try (split; (next => omega); (try go_simp))); try rfl; done))
          try simp only [Act.put, List.setIfInBounds_toArray, List.set_cons_zero, List.set_cons_succ]
          ((refine reg_yes (i := 3) (oi := { dst := some 19, op := .load 3 (.tmp 18), type := 3, pos := "ref.go:60", after := #[{ on := 2, ground := .data }], guard := none }) (v := ?_) rfl (by kernel_rfl) (by kernel_rfl) (by kernel_rfl) (fun _ _ _ h => h) rfl ?_ ?_); rotate_left; focus (intro W hW; (try dsimp only at hW); go_split_ands; go_simp; (try (simp (disch := omega) only [IntWalk.i64_in]; (try go_simp))); (try (split; (next => omega); (try go_simp))); try rfl; done))
          try simp only [Act.put, List.setIfInBounds_toArray, List.set_cons_zero, List.set_cons_succ]
          ((refine reg_yes (i := 4) (oi := { dst := some 20, op := .move (.tmp 1), type := 46, pos := "ref.go:60", after := #[], guard := none }) (v := ?_) rfl (by kernel_rfl) (by kernel_rfl) (by kernel_rfl) (fun _ _ _ h => h) rfl ?_ ?_); rotate_left; focus (intro W hW; (try dsimp only at hW); go_split_ands; go_simp; (try (simp (disch := omega) only [IntWalk.i64_in]; (try go_simp))); (try (split; (next => omega); (try go_simp))); try rfl; done))
          try simp only [Act.put, List.setIfInBounds_toArray, List.set_cons_zero, List.set_cons_succ]
          ((refine reg_yes (i := 5) (oi := { dst := some 21, op := .move (.tmp 5), type := 3, pos := "ref.go:60", after := #[], guard := none }) (v := ?_) rfl (by kernel_rfl) (by kernel_rfl) (by kernel_rfl) (fun _ _ _ h => h) rfl ?_ ?_); rotate_left; focus (intro W hW; (try dsimp only at hW); go_split_ands; go_simp; (try (simp (disch := omega) only [IntWalk.i64_in]; (try go_simp))); (try (split; (next => omega); (try go_simp))); try rfl; done))
          try simp only [Act.put, List.setIfInBounds_toArray, List.set_cons_zero, List.set_cons_succ]
          ((refine reg_yes (i := 6) (oi := { dst := some 22, op := .indexAddr 46 (.tmp 20) (.tmp 21), type := 0, pos := "ref.go:60", after := #[{ on := 4, ground := .data }, { on := 5, ground := .data }], guard := none }) (v := ?_) rfl (by kernel_rfl) (by kernel_rfl) (by kernel_rfl) (fun _ _ _ h => h) rfl ?_ ?_); rotate_left; focus (intro W hW; (try dsimp only at hW); go_split_ands; go_simp; (try (simp (disch := omega) only [IntWalk.i64_in]; (try go_simp))); (try (split; (next => omega); (try go_simp))); try rfl; done))
          try simp only [Act.put, List.setIfInBounds_toArray, List.set_cons_zero, List.set_cons_succ]
          ((refine reg_yes (i := 7) (oi := { dst := some 23, op := .load 3 (.tmp 22), type := 3, pos := "ref.go:60", after := #[{ on := 6, ground := .data }], guard := none }) (v := ?_) rfl (by kernel_rfl) (by kernel_rfl) (by kernel_rfl) (fun _ _ _ h => h) rfl ?_ ?_); rotate_left; focus (intro W hW; (try dsimp only at hW); go_split_ands; go_simp; (try (simp (disch := omega) only [IntWalk.i64_in]; (try go_simp))); (try (split; (next => omega); (try go_simp))); try rfl; done))
          try simp only [Act.put, List.setIfInBounds_toArray, List.set_cons_zero, List.set_cons_succ]
          ((refine reg_yes (i := 8) (oi := { dst := some 24, op := .binOp .lss 3 (.tmp 19) (.tmp 23) 3, type := 4, pos := "ref.go:60", after := #[{ on := 3, ground := .data }, { on := 7, ground := .data }], guard := none }) (v := ?_) rfl (by kernel_rfl) (by kernel_rfl) (by kernel_rfl) (fun _ _ _ h => h) rfl ?_ ?_); rotate_left; focus (intro W hW; (try dsimp only at hW); go_split_ands; go_simp; (try (simp (disch := omega) only [IntWalk.i64_in]; (try go_simp))); (try (split; (next => omega); (try go_simp))); try rfl; done))
          try simp only [Act.put, List.setIfInBounds_toArray, List.set_cons_zero, List.set_cons_succ]
          refine reg_done (by kernel_rfl) (show (fun W => W.cell? ⟨b, o + k, none⟩ = some (.int .i64 x) ∧ W.cell? ⟨b', o' + k, none⟩ = some (.int .i64 y)) wr.drew from ⟨a0, b0⟩) ?_
          have hcd := hc.drew
          go_wp2_with (with_reducible first | refine stop_append ?_ | refine stop_copy ?_ | refine stop_make ?_ | refine stop_lookup ?_ | refine stop_update ?_ | refine stop_slice ?_ | refine stop_range ?_ | refine stop_next ?_ | refine stop_convert ⟨_, rfl⟩ ?_ | refine stop_convertB ⟨_, _, _, rfl⟩ ?_ | refine stop_eqSlice ⟨_, _, rfl⟩ ?_)
          go_ret
          rw [Hr.out]; exact ⟨rfl, hcd⟩
        · have Hr := Lib.hid (Hgo.out hxy)
          go_wp2_with (with_reducible first | refine stop_append ?_ | refine stop_copy ?_ | refine stop_make ?_ | refine stop_lookup ?_ | refine stop_update ?_ | refine stop_slice ?_ | refine stop_range ?_ | refine stop_next ?_ | refine stop_convert ⟨_, rfl⟩ ?_ | refine stop_convertB ⟨_, _, _, rfl⟩ ?_ | refine stop_eqSlice ⟨_, _, rfl⟩ ?_)
          refine reg_start (fun W => W.cell? ⟨b, o + k, none⟩ = some (.int .i64 x) ∧ W.cell? ⟨b', o' + k, none⟩ = some (.int .i64 y)) (by kernel_rfl) ?_
          ((refine reg_yes (i := 0) (oi := { dst := some 16, op := .move (.tmp 0), type := 46, pos := "ref.go:60", after := #[], guard := none }) (v := ?_) rfl (by kernel_rfl) (by kernel_rfl) (by kernel_rfl) (fun _ _ _ h => h) rfl ?_ ?_); rotate_left; focus (intro W hW; (try dsimp only at hW); go_split_ands; go_simp; (try (simp (disch := omega) only [IntWalk.i64_in]; (try go_simp))); (try (split; (next => omega); (try go_simp))); try rfl; done))
          try simp only [Act.put, List.setIfInBounds_toArray, List.set_cons_zero, List.set_cons_succ]
          ((refine reg_yes (i := 1) (oi := { dst := some 17, op := .move (.tmp 5), type := 3, pos := "ref.go:60", after := #[], guard := none }) (v := ?_) rfl (by kernel_rfl) (by kernel_rfl) (by kernel_rfl) (fun _ _ _ h => h) rfl ?_ ?_); rotate_left; focus (intro W hW; (try dsimp only at hW); go_split_ands; go_simp; (try (simp (disch := omega) only [IntWalk.i64_in]; (try go_simp))); (try (split; (next => omega); (try go_simp))); try rfl; done))
          try simp only [Act.put, List.setIfInBounds_toArray, List.set_cons_zero, List.set_cons_succ]
          ((refine reg_yes (i := 2) (oi := { dst := some 18, op := .indexAddr 46 (.tmp 16) (.tmp 17), type := 0, pos := "ref.go:60", after := #[{ on := 0, ground := .data }, { on := 1, ground := .data }], guard := none }) (v := ?_) rfl (by kernel_rfl) (by kernel_rfl) (by kernel_rfl) (fun _ _ _ h => h) rfl ?_ ?_); rotate_left; focus (intro W hW; (try dsimp only at hW); go_split_ands; go_simp; (try (simp (disch := omega) only [IntWalk.i64_in]; (try go_simp))); (try (split; (next => omega); (try go_simp))); try rfl; done))
          try simp only [Act.put, List.setIfInBounds_toArray, List.set_cons_zero, List.set_cons_succ]
          ((refine reg_yes (i := 3) (oi := { dst := some 19, op := .load 3 (.tmp 18), type := 3, pos := "ref.go:60", after := #[{ on := 2, ground := .data }], guard := none }) (v := ?_) rfl (by kernel_rfl) (by kernel_rfl) (by kernel_rfl) (fun _ _ _ h => h) rfl ?_ ?_); rotate_left; focus (intro W hW; (try dsimp only at hW); go_split_ands; go_simp; (try (simp (disch := omega) only [IntWalk.i64_in]; (try go_simp))); (try (split; (next => omega); (try go_simp))); try rfl; done))
          try simp only [Act.put, List.setIfInBounds_toArray, List.set_cons_zero, List.set_cons_succ]
          ((refine reg_yes (i := 4) (oi := { dst := some 20, op := .move (.tmp 1), type := 46, pos := "ref.go:60", after := #[], guard := none }) (v := ?_) rfl (by kernel_rfl) (by kernel_rfl) (by kernel_rfl) (fun _ _ _ h => h) rfl ?_ ?_); rotate_left; focus (intro W hW; (try dsimp only at hW); go_split_ands; go_simp; (try (simp (disch := omega) only [IntWalk.i64_in]; (try go_simp))); (try (split; (next => omega); (try go_simp))); try rfl; done))
          try simp only [Act.put, List.setIfInBounds_toArray, List.set_cons_zero, List.set_cons_succ]
          ((refine reg_yes (i := 5) (oi := { dst := some 21, op := .move (.tmp 5), type := 3, pos := "ref.go:60", after := #[], guard := none }) (v := ?_) rfl (by kernel_rfl) (by kernel_rfl) (by kernel_rfl) (fun _ _ _ h => h) rfl ?_ ?_); rotate_left; focus (intro W hW; (try dsimp only at hW); go_split_ands; go_simp; (try (simp (disch := omega) only [IntWalk.i64_in]; (try go_simp))); (try (split; (next => omega); (try go_simp))); try rfl; done))
          try simp only [Act.put, List.setIfInBounds_toArray, List.set_cons_zero, List.set_cons_succ]
          ((refine reg_yes (i := 6) (oi := { dst := some 22, op := .indexAddr 46 (.tmp 20) (.tmp 21), type := 0, pos := "ref.go:60", after := #[{ on := 4, ground := .data }, { on := 5, ground := .data }], guard := none }) (v := ?_) rfl (by kernel_rfl) (by kernel_rfl) (by kernel_rfl) (fun _ _ _ h => h) rfl ?_ ?_); rotate_left; focus (intro W hW; (try dsimp only at hW); go_split_ands; go_simp; (try (simp (disch := omega) only [IntWalk.i64_in]; (try go_simp))); (try (split; (next => omega); (try go_simp))); try rfl; done))
          try simp only [Act.put, List.setIfInBounds_toArray, List.set_cons_zero, List.set_cons_succ]
          ((refine reg_yes (i := 7) (oi := { dst := some 23, op := .load 3 (.tmp 22), type := 3, pos := "ref.go:60", after := #[{ on := 6, ground := .data }], guard := none }) (v := ?_) rfl (by kernel_rfl) (by kernel_rfl) (by kernel_rfl) (fun _ _ _ h => h) rfl ?_ ?_); rotate_left; focus (intro W hW; (try dsimp only at hW); go_split_ands; go_simp; (try (simp (disch := omega) only [IntWalk.i64_in]; (try go_simp))); (try (split; (next => omega); (try go_simp))); try rfl; done))
          try simp only [Act.put, List.setIfInBounds_toArray, List.set_cons_zero, List.set_cons_succ]
          ((refine reg_yes (i := 8) (oi := { dst := some 24, op := .binOp .lss 3 (.tmp 19) (.tmp 23) 3, type := 4, pos := "ref.go:60", after := #[{ on := 3, ground := .data }, { on := 7, ground := .data }], guard := none }) (v := ?_) rfl (by kernel_rfl) (by kernel_rfl) (by kernel_rfl) (fun _ _ _ h => h) rfl ?_ ?_); rotate_left; focus (intro W hW; (try dsimp only at hW); go_split_ands; go_simp; (try (simp (disch := omega) only [IntWalk.i64_in]; (try go_simp))); (try (split; (next => omega); (try go_simp))); try rfl; done))
          try simp only [Act.put, List.setIfInBounds_toArray, List.set_cons_zero, List.set_cons_succ]
          refine reg_done (by kernel_rfl) (show (fun W => W.cell? ⟨b, o + k, none⟩ = some (.int .i64 x) ∧ W.cell? ⟨b', o' + k, none⟩ = some (.int .i64 y)) wr.drew from ⟨a0, b0⟩) ?_
          have hcd := hc.drew
          go_wp2_with (with_reducible first | refine stop_append ?_ | refine stop_copy ?_ | refine stop_make ?_ | refine stop_lookup ?_ | refine stop_update ?_ | refine stop_slice ?_ | refine stop_range ?_ | refine stop_next ?_ | refine stop_convert ⟨_, rfl⟩ ?_ | refine stop_convertB ⟨_, _, _, rfl⟩ ?_ | refine stop_eqSlice ⟨_, _, rfl⟩ ?_)
          go_roundw
          case rel => exact ⟨k + 1, by omega, by go_num, hcd, Hr.out⟩
          case measure => simp [intOf]; omega
      · obtain rfl : k = xs.length := by omega
        have Hr := Lib.hid (show coversB xs ys = true from covers_at.2 ⟨Hkk.out, fun i h h' => Hall.out i h h' h⟩)
        go_wp2_with (with_reducible first | refine stop_append ?_ | refine stop_copy ?_ | refine stop_make ?_ | refine stop_lookup ?_ | refine stop_update ?_ | refine stop_slice ?_ | refine stop_range ?_ | refine stop_next ?_ | refine stop_convert ⟨_, rfl⟩ ?_ | refine stop_convertB ⟨_, _, _, rfl⟩ ?_ | refine stop_eqSlice ⟨_, _, rfl⟩ ?_)
        go_ret
        rw [Hr.out]; exact ⟨rfl, hc⟩
set_option maxRecDepth 100000 in
set_option maxHeartbeats 1000000 in
theorem rtotal_any (F : Nat → Prop) (v : Value) (xs : List Int) (w : World) (hs : Sl F w v xs) (hl : xs.length * 8 ≤ 140737488355328) :
    Calls Try.prog 103 #[v] w fun e w' => e = .returned (.int .i64 (total xs)) ∧ Chg No w w' := by
  have Hr := Lib.hid (fun W (hW : Chg No w W) => rright_any F v xs W (hs.keepNo hW) hl)
  have Hs := Lib.hid hs
  obtain ⟨A, c, rfl⟩ := hs.slice
  clear hs
  cases hk : vright xs with
  | true =>
    rw [hk] at Hr
    have Hk := Lib.hid (show total xs = xs.sum by simp [total, hk])
    have Hv := Lib.hid (vright_iff.1 hk)
    have h8 := (vright_iff.1 hk).2.1
    clear hk
    go_enter Try.func103, Try.ntmps103
    go_wp2_with (with_reducible first | refine stop_append ?_ | refine stop_copy ?_ | refine stop_make ?_ | refine stop_lookup ?_ | refine stop_update ?_ | refine stop_slice ?_ | refine stop_range ?_ | refine stop_next ?_ | refine stop_convert ⟨_, rfl⟩ ?_ | refine stop_convertB ⟨_, _, _, rfl⟩ ?_ | refine stop_eqSlice ⟨_, _, rfl⟩ ?_)
    go_loopw [3, 4] (fun v3 v4 wr => ∃ k : Nat, k ≤ xs.length ∧ v4 = .int .i64 k ∧ v3 = .int .i64 (xs.take k).sum ∧ Chg No w wr) (fun _ v4 _ => xs.length - (intOf v4).toNat)
    case atStart => exact ⟨0, by omega, rfl, rfl, Chg.refl _ _⟩
    case round =>
      obtain ⟨k, hk, rfl, rfl, hc2⟩ := hrel
      by_cases hlt : k < xs.length
      · have hsum : (xs.take (k + 1)).sum = (xs.take k).sum + xs[k] := by rw [List.take_succ_eq_append_getElem hlt, List.sum_append]; simp only [List.sum_cons, List.sum_nil, Int.add_zero]
        have hb1 : 0 ≤ (xs.take k).sum ∧ (xs.take k).sum ≤ 8796093022208 := by
          have : ∀ l : List Int, (∀ n ∈ l, 0 ≤ n ∧ n ≤ 1099511627776) → 0 ≤ l.sum ∧ l.sum ≤ 1099511627776 * l.length := by
            intro l
            induction l with
            | nil => intro _; simp
            | cons x r ih =>
              intro hl
              have h1 := hl x (by simp)
              have h2 := ih (fun n hn => hl n (by simp [hn]))
              simp only [List.sum_cons, List.length_cons]
              omega
          have := this (xs.take k) (fun n hn => Hv.out.2.2 n (List.mem_of_mem_take hn))
          rw [List.length_take] at this
          omega
        have hb2 := Hv.out.2.2 _ (List.getElem_mem hlt)
        generalize hx : xs[k] = x at *
        have Hx := Lib.hid hx
        clear hx
        generalize (xs.take k).sum = s at *
        have Hsum := Lib.hid hsum
        clear hsum
        have hwr : IntKind.i64.wrap (s + x) = s + x := IntWalk.i64_in _ (by omega)
        go_wp2_with (with_reducible first | refine stop_append ?_ | refine stop_copy ?_ | refine stop_make ?_ | refine stop_lookup ?_ | refine stop_update ?_ | refine stop_slice ?_ | refine stop_range ?_ | refine stop_next ?_ | refine stop_convert ⟨_, rfl⟩ ?_ | refine stop_convertB ⟨_, _, _, rfl⟩ ?_ | refine stop_eqSlice ⟨_, _, rfl⟩ ?_)
        refine (Hr.out _ hc2).mono ?_
        rintro e w3 ⟨rfl, hc3⟩
        have hc3 := hc2.trans hc3
        obtain ⟨b, o, rfl, _, hbl, a0⟩ := num_in (Hs.out.keepNo hc3) k hlt
        rw [Hx.out] at a0
        go_wp2_with (with_reducible first | refine stop_append ?_ | refine stop_copy ?_ | refine stop_make ?_ | refine stop_lookup ?_ | refine stop_update ?_ | refine stop_slice ?_ | refine stop_range ?_ | refine stop_next ?_ | refine stop_convert ⟨_, rfl⟩ ?_ | refine stop_convertB ⟨_, _, _, rfl⟩ ?_ | refine stop_eqSlice ⟨_, _, rfl⟩ ?_)
        go_roundw
        case rel => exact ⟨k + 1, by omega, by go_num, by rw [Hsum.out], hc3⟩
        case measure => simp [intOf]; omega
      · obtain rfl : k = xs.length := by omega
        rw [List.take_length]
        go_wp2_with (with_reducible first | refine stop_append ?_ | refine stop_copy ?_ | refine stop_make ?_ | refine stop_lookup ?_ | refine stop_update ?_ | refine stop_slice ?_ | refine stop_range ?_ | refine stop_next ?_ | refine stop_convert ⟨_, rfl⟩ ?_ | refine stop_convertB ⟨_, _, _, rfl⟩ ?_ | refine stop_eqSlice ⟨_, _, rfl⟩ ?_)
        refine (Hr.out _ hc2).mono ?_
        rintro e w3 ⟨rfl, hc3⟩
        go_wp2_with (with_reducible first | refine stop_append ?_ | refine stop_copy ?_ | refine stop_make ?_ | refine stop_lookup ?_ | refine stop_update ?_ | refine stop_slice ?_ | refine stop_range ?_ | refine stop_next ?_ | refine stop_convert ⟨_, rfl⟩ ?_ | refine stop_convertB ⟨_, _, _, rfl⟩ ?_ | refine stop_eqSlice ⟨_, _, rfl⟩ ?_)
        go_ret
        rw [Hk.out]; exact ⟨rfl, hc2.trans hc3⟩
  | false =>
    rw [hk] at Hr
    have Hk := Lib.hid (show total xs = 0 by simp [total, hk])
    clear hk
    go_enter Try.func103, Try.ntmps103
    go_wp2_with (with_reducible first | refine stop_append ?_ | refine stop_copy ?_ | refine stop_make ?_ | refine stop_lookup ?_ | refine stop_update ?_ | refine stop_slice ?_ | refine stop_range ?_ | refine stop_next ?_ | refine stop_convert ⟨_, rfl⟩ ?_ | refine stop_convertB ⟨_, _, _, rfl⟩ ?_ | refine stop_eqSlice ⟨_, _, rfl⟩ ?_)
    refine wp_loop_once ?_
    go_wp2_with (with_reducible first | refine stop_append ?_ | refine stop_copy ?_ | refine stop_make ?_ | refine stop_lookup ?_ | refine stop_update ?_ | refine stop_slice ?_ | refine stop_range ?_ | refine stop_next ?_ | refine stop_convert ⟨_, rfl⟩ ?_ | refine stop_convertB ⟨_, _, _, rfl⟩ ?_ | refine stop_eqSlice ⟨_, _, rfl⟩ ?_)
    refine (Hr.out _ (Chg.refl _ _)).mono ?_
    rintro e w3 ⟨rfl, hc3⟩
    go_wp2_with (with_reducible first | refine stop_append ?_ | refine stop_copy ?_ | refine stop_make ?_ | refine stop_lookup ?_ | refine stop_update ?_ | refine stop_slice ?_ | refine stop_range ?_ | refine stop_next ?_ | refine stop_convert ⟨_, rfl⟩ ?_ | refine stop_convertB ⟨_, _, _, rfl⟩ ?_ | refine stop_eqSlice ⟨_, _, rfl⟩ ?_)
    go_ret
    rw [Hk.out]; exact ⟨rfl, hc3⟩
end Go.Proofs.Ytbjpoamnglfjeaa


/- Walks of package term: Same. -/
set_option linter.unusedVariables false
set_option linter.unusedSimpArgs false
namespace Go.Proofs.Ytbjpoamnglfjeaa
open Go.RowKit Cb

set_option maxRecDepth 100000 in
set_option maxHeartbeats 1000000 in
theorem eqrows_any (F G : Nat → Prop) (v u : Value) (xs ys : List (List Int)) (w : World) (h : Sl F w v xs) (h' : Sl G w u ys) (hl : xs.length ≤ 1000000) (hl' : ys.length ≤ 17592186044416) (hb : ∀ x ∈ xs, x.length ≤ 1000000) (hb' : ∀ x ∈ ys, x.length ≤ 17592186044416) :
    Calls Try.prog 83 #[v, u, .func (.func 82) #[] #[]] w fun e w' => e = .returned (.bool (decide (xs = ys))) ∧ Chg No w w' := by
  obtain ⟨A, c, rfl⟩ := h.slice
  obtain ⟨B, d, rfl⟩ := h'.slice
  have H := Lib.hid h; have H' := Lib.hid h'; have Hb := Lib.hid hb; have Hb' := Lib.hid hb'
  clear h h' hb hb'
  by_cases hlen : xs.length = ys.length
  · go_enter Try.func83, Try.ntmps83
    have Hlen := Lib.hid hlen
    rw [← hlen] at H' hl' ⊢
    clear hlen
    go_wp2_with (with_reducible first | refine stop_append ?_ | refine stop_copy ?_ | refine stop_make ?_ | refine stop_lookup ?_ | refine stop_update ?_ | refine stop_slice ?_ | refine stop_range ?_ | refine stop_next ?_ | refine stop_convert ⟨_, rfl⟩ ?_ | refine stop_convertB ⟨_, _, _, rfl⟩ ?_ | refine stop_eqSlice ⟨_, _, rfl⟩ ?_)
    go_loopw [7, 17] (fun _ v17 wr => ∃ k : Nat, k ≤ xs.length ∧ v17 = .int .i64 k ∧ Chg No w wr ∧ xs.take k = ys.take k) (fun _ v17 _ => xs.length - (intOf v17).toNat)
    case atStart => exact ⟨0, by omega, rfl, Chg.refl _ _, rfl⟩
    case round =>
      obtain ⟨k, hk, rfl, hc, he⟩ := hrel
      have He := Lib.hid he; clear he
      by_cases hlt : k < xs.length
      · have hlt' : k < ys.length := by have := Hlen.out; omega
        obtain ⟨b, o, vx, rfl, _, hbl, hx0, hux⟩ := rowT_get (H.out.keepNo hc) k hlt
        have hgy : Sl G w (.slice B xs.length d) ys := H'.out
        obtain ⟨b', o', vy, rfl, _, hbl', hy0, huy⟩ := rowT_get (hgy.keepNo hc) k hlt'
        have hsx : xs.take (k + 1) = xs.take k ++ [xs[k]] := List.take_succ_eq_append_getElem hlt
        have hsy : ys.take (k + 1) = ys.take k ++ [ys[k]] := List.take_succ_eq_append_getElem hlt'
        have hxy : xs[k] ≠ ys[k] → xs ≠ ys := fun h e => h (by subst e; rfl)
        have hbx := Hb.out _ (List.getElem_mem hlt)
        have hby := Hb'.out _ (List.getElem_mem hlt')
        clear hgy
        generalize xs[k] = x at *
        generalize ys[k] = y at *
        have Hcall := Lib.hid (vequal_any F G vx vy x y wr hux huy hbx hby)
        obtain ⟨Ax, cx, rfl⟩ := hux.slice
        obtain ⟨Ay, cy, rfl⟩ := huy.slice
        have Hsx := Lib.hid hsx; have Hsy := Lib.hid hsy; have Hxy := Lib.hid hxy
        clear hsx hsy hxy hux huy
        by_cases hq : x = y
        · rw [decide_eq_true hq] at Hcall
          have Hq := Lib.hid hq
          clear hq
          go_wp2_with (with_reducible first | refine stop_append ?_ | refine stop_copy ?_ | refine stop_make ?_ | refine stop_lookup ?_ | refine stop_update ?_ | refine stop_slice ?_ | refine stop_range ?_ | refine stop_next ?_ | refine stop_convert ⟨_, rfl⟩ ?_ | refine stop_convertB ⟨_, _, _, rfl⟩ ?_ | refine stop_eqSlice ⟨_, _, rfl⟩ ?_)
          refine Hcall.out.mono ?_
          rintro e w3 ⟨rfl, hc3⟩
          go_wp2_with (with_reducible first | refine stop_append ?_ | refine stop_copy ?_ | refine stop_make ?_ | refine stop_lookup ?_ | refine stop_update ?_ | refine stop_slice ?_ | refine stop_range ?_ | refine stop_next ?_ | refine stop_convert ⟨_, rfl⟩ ?_ | refine stop_convertB ⟨_, _, _, rfl⟩ ?_ | refine stop_eqSlice ⟨_, _, rfl⟩ ?_)
          go_roundw
          case rel => exact ⟨k + 1, by omega, by go_num, hc.trans hc3, by rw [Hsx.out, Hsy.out, He.out, Hq.out]⟩
          case measure => simp [intOf]; omega
        · rw [decide_eq_false hq] at Hcall
          have Hq := Lib.hid hq
          clear hq
          go_wp2_with (with_reducible first | refine stop_append ?_ | refine stop_copy ?_ | refine stop_make ?_ | refine stop_lookup ?_ | refine stop_update ?_ | refine stop_slice ?_ | refine stop_range ?_ | refine stop_next ?_ | refine stop_convert ⟨_, rfl⟩ ?_ | refine stop_convertB ⟨_, _, _, rfl⟩ ?_ | refine stop_eqSlice ⟨_, _, rfl⟩ ?_)
          refine Hcall.out.mono ?_
          rintro e w3 ⟨rfl, hc3⟩
          go_wp2_with (with_reducible first | refine stop_append ?_ | refine stop_copy ?_ | refine stop_make ?_ | refine stop_lookup ?_ | refine stop_update ?_ | refine stop_slice ?_ | refine stop_range ?_ | refine stop_next ?_ | refine stop_convert ⟨_, rfl⟩ ?_ | refine stop_convertB ⟨_, _, _, rfl⟩ ?_ | refine stop_eqSlice ⟨_, _, rfl⟩ ?_)
          go_ret
          exact ⟨by simp [Hxy.out Hq.out], hc.trans hc3⟩
      · obtain rfl : k = xs.length := by omega
        have he := He.out
        rw [List.take_length, Hlen.out, List.take_length] at he
        have Heq := Lib.hid he
        clear he He
        go_wp2_with (with_reducible first | refine stop_append ?_ | refine stop_copy ?_ | refine stop_make ?_ | refine stop_lookup ?_ | refine stop_update ?_ | refine stop_slice ?_ | refine stop_range ?_ | refine stop_next ?_ | refine stop_convert ⟨_, rfl⟩ ?_ | refine stop_convertB ⟨_, _, _, rfl⟩ ?_ | refine stop_eqSlice ⟨_, _, rfl⟩ ?_)
        go_ret
        exact ⟨by simp [Heq.out], hc⟩
  · have hne : ((xs.length : Int) != ys.length) = true := by simp; omega
    have hne2 : ((xs.length : Int) == ys.length) = false := by simp; omega
    have Hn := Lib.hid (show xs ≠ ys from fun e => hlen (by rw [e]))
    clear hlen
    go_enter Try.func83, Try.ntmps83
    go_wp2_with (with_reducible first | refine stop_append ?_ | refine stop_copy ?_ | refine stop_make ?_ | refine stop_lookup ?_ | refine stop_update ?_ | refine stop_slice ?_ | refine stop_range ?_ | refine stop_next ?_ | refine stop_convert ⟨_, rfl⟩ ?_ | refine stop_convertB ⟨_, _, _, rfl⟩ ?_ | refine stop_eqSlice ⟨_, _, rfl⟩ ?_)
    go_ret
    exact ⟨by simp [Hn.out], Chg.refl _ _⟩
def sameC (t : Int) (q : List Int) (s : List (List Int)) (t' : Int) (q' : List Int) (s' : List (List Int)) : Bool := decide (t = t' ∧ q = q' ∧ s = s')
set_option maxRecDepth 100000 in
set_option maxHeartbeats 1000000 in
theorem tsame_any (F G F' G' : Nat → Prop) (t t' : Int) (vq vs vq' vs' : Value) (q q' : List Int) (s s' : List (List Int)) (w : World) (hq : Sl F w vq q) (hs : Sl G w vs s) (hq' : Sl F' w vq' q') (hs' : Sl G' w vs' s')
    (h1 : q.length ≤ 1000000) (h2 : s.length ≤ 1000000) (h3 : ∀ x ∈ s, x.length ≤ 1000000) (h1' : q'.length ≤ 17592186044416) (h2' : s'.length ≤ 17592186044416) (h3' : ∀ x ∈ s', x.length ≤ 17592186044416) :
    Calls Try.prog 44 #[cfgV t vq vs, cfgV t' vq' vs'] w fun e w' => e = .returned (.bool (sameC t q s t' q' s')) ∧ Chg No w w' := by
  have Hq := Lib.hid (fun W (hW : Chg No w W) => vequal_any F F' vq vq' q q' W (hq.keepNo hW) (hq'.keepNo hW) h1 h1')
  have Hs := Lib.hid (fun W (hW : Chg No w W) => eqrows_any G G' vs vs' s s' W (hs.keepNo hW) (hs'.keepNo hW) h2 h2' h3 h3')
  have hr : sameC t q s t' q' s' = (decide (t = t') && decide (q = q') && decide (s = s')) := by
    simp only [sameC, Bool.decide_and, Bool.and_assoc]
  rw [hr]
  obtain ⟨Aq, cq, rfl⟩ := hq.slice
  obtain ⟨As, cs, rfl⟩ := hs.slice
  obtain ⟨Bq, dq, rfl⟩ := hq'.slice
  obtain ⟨Bs, ds, rfl⟩ := hs'.slice
  clear hq hs hq' hs' h3 h3' hr
  generalize decide (q = q') = qb at *
  generalize decide (s = s') = sb at *
  unfold cfgV
  obtain ⟨o1, o2, hc0⟩ : ((w.alloc (.cells #[.int .i64 t, .slice Aq q.length cq, .slice As s.length cs] 68)).alloc (.cells #[.int .i64 t', .slice Bq q'.length dq, .slice Bs s'.length ds] 68)).heap[w.heap.size]? = some (.cells #[.int .i64 t, .slice Aq q.length cq, .slice As s.length cs] 68) ∧
      ((w.alloc (.cells #[.int .i64 t, .slice Aq q.length cq, .slice As s.length cs] 68)).alloc (.cells #[.int .i64 t', .slice Bq q'.length dq, .slice Bs s'.length ds] 68)).heap[w.heap.size + 1]? = some (.cells #[.int .i64 t', .slice Bq q'.length dq, .slice Bs s'.length ds] 68) ∧
      Chg No w ((w.alloc (.cells #[.int .i64 t, .slice Aq q.length cq, .slice As s.length cs] 68)).alloc (.cells #[.int .i64 t', .slice Bq q'.length dq, .slice Bs s'.length ds] 68)) := by
    refine ⟨((Chg.refl No _).alloc _).obj (alloc_obj _ _) (not_no _), ?_, ((Chg.refl No w).alloc _).alloc _⟩
    have := alloc_obj (w.alloc (.cells #[.int .i64 t, .slice Aq q.length cq, .slice As s.length cs] 68)) (.cells #[.int .i64 t', .slice Bq q'.length dq, .slice Bs s'.length ds] 68)
    rw [show (w.alloc (.cells #[.int .i64 t, .slice Aq q.length cq, .slice As s.length cs] 68)).heap.size = w.heap.size + 1 by simp] at this
    exact this
  have a0 := cell_obj (i := 0) o1 rfl
  have a1 := cell_obj (i := 1) o1 rfl
  have a2 := cell_obj (i := 2) o1 rfl
  have b0 := cell_obj (i := 0) o2 rfl
  have b1 := cell_obj (i := 1) o2 rfl
  have b2 := cell_obj (i := 2) o2 rfl
  clear o1 o2
  by_cases ht : t = t'
  · subst ht
    simp only [decide_true, Bool.true_and]
    go_enter Try.func44, Try.ntmps44
    go_wp2_with (with_reducible first | refine stop_append ?_ | refine stop_copy ?_ | refine stop_make ?_ | refine stop_lookup ?_ | refine stop_update ?_ | refine stop_slice ?_ | refine stop_range ?_ | refine stop_next ?_ | refine stop_convert ⟨_, rfl⟩ ?_ | refine stop_convertB ⟨_, _, _, rfl⟩ ?_ | refine stop_eqSlice ⟨_, _, rfl⟩ ?_)
    refine (Hq.out _ hc0).mono ?_
    rintro e w1 ⟨rfl, hc1⟩
    have hcw1 := hc0.trans hc1
    replace a2 := hc1.cell a2 (not_no _)
    replace b2 := hc1.cell b2 (not_no _)
    clear a0 a1 b0 b1 hc1
    cases qb
    · go_wp2_with (with_reducible first | refine stop_append ?_ | refine stop_copy ?_ | refine stop_make ?_ | refine stop_lookup ?_ | refine stop_update ?_ | refine stop_slice ?_ | refine stop_range ?_ | refine stop_next ?_ | refine stop_convert ⟨_, rfl⟩ ?_ | refine stop_convertB ⟨_, _, _, rfl⟩ ?_ | refine stop_eqSlice ⟨_, _, rfl⟩ ?_)
      go_ret
      exact ⟨rfl, hcw1⟩
    · go_wp2_with (with_reducible first | refine stop_append ?_ | refine stop_copy ?_ | refine stop_make ?_ | refine stop_lookup ?_ | refine stop_update ?_ | refine stop_slice ?_ | refine stop_range ?_ | refine stop_next ?_ | refine stop_convert ⟨_, rfl⟩ ?_ | refine stop_convertB ⟨_, _, _, rfl⟩ ?_ | refine stop_eqSlice ⟨_, _, rfl⟩ ?_)
      refine (Hs.out _ hcw1).mono ?_
      rintro e w2 ⟨rfl, hc2⟩
      go_wp2_with (with_reducible first | refine stop_append ?_ | refine stop_copy ?_ | refine stop_make ?_ | refine stop_lookup ?_ | refine stop_update ?_ | refine stop_slice ?_ | refine stop_range ?_ | refine stop_next ?_ | refine stop_convert ⟨_, rfl⟩ ?_ | refine stop_convertB ⟨_, _, _, rfl⟩ ?_ | refine stop_eqSlice ⟨_, _, rfl⟩ ?_)
      go_ret
      exact ⟨by simp, hcw1.trans hc2⟩
  · have h1 : (t == t') = false := by simpa using ht
    rw [decide_eq_false ht]
    clear ht
    go_enter Try.func44, Try.ntmps44
    go_wp2_with (with_reducible first | refine stop_append ?_ | refine stop_copy ?_ | refine stop_make ?_ | refine stop_lookup ?_ | refine stop_update ?_ | refine stop_slice ?_ | refine stop_range ?_ | refine stop_next ?_ | refine stop_convert ⟨_, rfl⟩ ?_ | refine stop_convertB ⟨_, _, _, rfl⟩ ?_ | refine stop_eqSlice ⟨_, _, rfl⟩ ?_)
    go_ret
    exact ⟨by simp, hc0⟩
end Go.Proofs.Ytbjpoamnglfjeaa


/- Walks of the document's chapter 6: Has, unlike. -/
set_option linter.unusedVariables false
set_option linter.unusedSimpArgs false
namespace Cb
open Go Go.Deep
section
variable {P : Program} {w : World} {a : Act}
theorem take_run {α : Type} [Rep α] {F : Nat → Prop} {d : Option Tmp} {x y : Operand} {t ty e : TypeId} {p : String} {af : Array Edge} {g : Option (Nat × Bool)} {z : Value} {bytes : Nat}
    (ht : P.underlying t = some (.slice e)) (hi' : Info P e z (Rep.n α) bytes) {A : Option Addr} {n c h : Nat} {xs : List α} (hs : Sl F w (.slice A n c) xs) (hx : a.eval x = .slice A n c)
    {kd : IntKind} (hy : a.eval y = .int kd h) (h2 : h ≤ xs.length) :
    (execOp a.eval ⟨d, .slice t x none (some y) none, ty, p, af, g⟩).run P w = .ok (.value (.slice A h c)) w := by
  obtain ⟨i, hi0, hz0, hz1, hz2⟩ := info_parts hi'
  obtain ⟨hn, hc⟩ := hs.len
  subst hn
  have hhc : h ≤ c := by omega
  have hb : ∀ (cd : BoundsCode) (cd2 : BoundsCode), (Instr.sliceBounds true xs.length c none (some (.int kd h)) none).run P w = .ok (0, h, c) w := by
    intro _ _
    simp [Instr.sliceBounds, *, run_sliceBound_in]
  have hadd : ∀ b : Addr, b.add 0 = b := fun b => by cases b; simp [Addr.add]
  have hr : (Instr.slice t (a.eval x) none (some (.int kd h)) none).run P w = .ok (.slice A h c) w := by
    simp [Instr.slice, hx, run_underlying ht, hb .index .index, Go.sizeOf, typeInfo, hi0]
    cases A <;> simp [hadd]
  simp only [execOp, Instr.sliceAt, Sem.run_bind, run_underlying ht, Option.map_some, Option.map_none, hy, hr, Result.andThen_ok, Sem.run_pure]
theorem take_sl {α : Type} [Rep α] {F : Nat → Prop} {A : Option Addr} {n c : Nat} {xs : List α} (hs : Sl F w (.slice A n c) xs) (h : Nat) (hh : h ≤ xs.length) : Sl F w (.slice A h c) (xs.take h) := by
  obtain ⟨A', c', e, hl, hr⟩ := hs
  cases e
  have e : (xs.take h).length = h := by simp; omega
  refine ⟨A, c, by rw [e], by rw [e]; omega, ?_⟩
  rcases hr with rfl | ⟨b, o, e1, hb, hlt, hr⟩
  · left; simp
  · right
    refine ⟨b, o, e1, hb, hlt, fun i hi => ?_⟩
    obtain ⟨d, hd, ha⟩ := hr i (by omega)
    exact ⟨d, by rw [List.getElem_take]; exact hd, ha⟩
end
end Cb
namespace Go.Proofs.Ytbjpoamnglfjeaa
open Go.RowKit Cb

set_option maxRecDepth 100000 in
set_option maxHeartbeats 1000000 in
theorem has_any (F : Nat → Prop) (v : Value) (xs : List Int) (x : Int) (w : World) (hs : Sl F w v xs) (hl : xs.length * 8 ≤ 140737488355328) :
    Calls Try.prog 100 #[v, .int .i64 x] w fun e w' => e = .returned (.bool (decide (x ∈ xs))) ∧ Chg No w w' := by
  have Hs := Lib.hid (fun W (hW : Chg No w W) => hs.keepNo hW)
  obtain ⟨A, c, rfl⟩ := hs.slice
  clear hs
  go_enter Try.func100, Try.ntmps100
  go_wp2_with (with_reducible first | refine stop_append ?_ | refine stop_copy ?_ | refine stop_make ?_ | refine stop_lookup ?_ | refine stop_update ?_ | refine stop_slice ?_ | refine stop_range ?_ | refine stop_next ?_ | refine stop_convert ⟨_, rfl⟩ ?_ | refine stop_convertB ⟨_, _, _, rfl⟩ ?_ | refine stop_eqSlice ⟨_, _, rfl⟩ ?_)
  go_loopw [5] (fun v5 wr => ∃ k : Nat, k ≤ xs.length ∧ v5 = .int .i64 k ∧ Chg No w wr ∧ x ∉ xs.take k) (fun v5 _ => xs.length - (intOf v5).toNat)
  case atStart => exact ⟨0, by omega, rfl, Chg.refl _ _, by simp⟩
  case round =>
    obtain ⟨k, hk, rfl, hc, hno⟩ := hrel
    have Hno := Lib.hid hno
    clear hno
    by_cases hlt : k < xs.length
    · obtain ⟨b, o, rfl, _, hbl, hx0⟩ := intT_get (Hs.out wr hc) k hlt
      have Hmem := Lib.hid (List.getElem_mem hlt)
      have Htk := Lib.hid (List.take_succ_eq_append_getElem hlt)
      generalize xs[k] = y at *
      by_cases hxy : y = x
      · have Hd := Lib.hid (show decide (x ∈ xs) = true from decide_eq_true (hxy ▸ Hmem.out))
        subst hxy
        go_wp2_with (with_reducible first | refine stop_append ?_ | refine stop_copy ?_ | refine stop_make ?_ | refine stop_lookup ?_ | refine stop_update ?_ | refine stop_slice ?_ | refine stop_range ?_ | refine stop_next ?_ | refine stop_convert ⟨_, rfl⟩ ?_ | refine stop_convertB ⟨_, _, _, rfl⟩ ?_ | refine stop_eqSlice ⟨_, _, rfl⟩ ?_)
        go_ret
        exact ⟨by rw [Hd.out]; rfl, hc⟩
      · have hb : (y == x) = false := by simpa using hxy
        have Hxy := Lib.hid hxy
        clear hxy
        go_wp2_with (with_reducible first | refine stop_append ?_ | refine stop_copy ?_ | refine stop_make ?_ | refine stop_lookup ?_ | refine stop_update ?_ | refine stop_slice ?_ | refine stop_range ?_ | refine stop_next ?_ | refine stop_convert ⟨_, rfl⟩ ?_ | refine stop_convertB ⟨_, _, _, rfl⟩ ?_ | refine stop_eqSlice ⟨_, _, rfl⟩ ?_)
        go_roundw
        case rel => exact ⟨k + 1, by omega, by go_num, hc, by rw [Htk.out, List.mem_append, List.mem_singleton]; rintro (h | h); exact Hno.out h; exact Hxy.out h.symm⟩
        case measure => simp [intOf]; omega
    · obtain rfl : k = xs.length := by omega
      rw [List.take_length] at Hno
      have Hd := Lib.hid (show decide (x ∈ xs) = false from decide_eq_false Hno.out)
      go_wp2_with (with_reducible first | refine stop_append ?_ | refine stop_copy ?_ | refine stop_make ?_ | refine stop_lookup ?_ | refine stop_update ?_ | refine stop_slice ?_ | refine stop_range ?_ | refine stop_next ?_ | refine stop_convert ⟨_, rfl⟩ ?_ | refine stop_convertB ⟨_, _, _, rfl⟩ ?_ | refine stop_eqSlice ⟨_, _, rfl⟩ ?_)
      go_ret
      exact ⟨by rw [Hd.out]; rfl, hc⟩
set_option maxRecDepth 100000 in
set_option maxHeartbeats 1000000 in
theorem runlike_any (F : Nat → Prop) (v : Value) (xs : List Int) (w : World) (hs : Sl F w v xs) (hl : xs.length * 8 ≤ 140737488355328) :
    Calls Try.prog 74 #[v] w fun e w' => e = .returned (.bool (nodesB xs)) ∧ Chg No w w' := by
  have Hs := Lib.hid (fun W (hW : Chg No w W) => hs.keepNo hW)
  obtain ⟨A, c, rfl⟩ := hs.slice
  clear hs
  go_enter Try.func74, Try.ntmps74
  go_wp2_with (with_reducible first | refine stop_append ?_ | refine stop_copy ?_ | refine stop_make ?_ | refine stop_lookup ?_ | refine stop_update ?_ | refine stop_slice ?_ | refine stop_range ?_ | refine stop_next ?_ | refine stop_convert ⟨_, rfl⟩ ?_ | refine stop_convertB ⟨_, _, _, rfl⟩ ?_ | refine stop_eqSlice ⟨_, _, rfl⟩ ?_)
  go_loopw [3] (fun v3 wr => ∃ k : Nat, k ≤ xs.length ∧ v3 = .int .i64 k ∧ Chg No w wr ∧ nodesB (xs.take k) = true) (fun v3 _ => xs.length - (intOf v3).toNat)
  case atStart => exact ⟨0, by omega, rfl, Chg.refl _ _, by simpa using nodes_nil⟩
  case round =>
    obtain ⟨k, hk, rfl, hc, hnod⟩ := hrel
    have Hnod := Lib.hid hnod
    clear hnod
    by_cases hlt : k < xs.length
    · obtain ⟨b, o, rfl, _, hbl, hx0⟩ := intT_get (Hs.out wr hc) k hlt
      have Hbad := Lib.hid (fun h => nodes_out (List.getElem_mem hlt) h)
      have Hdup := Lib.hid (nodes_dup hlt)
      have Hgo := Lib.hid (nodes_step hlt Hnod.out)
      have Hhas := Lib.hid (fun W (hW : Chg No wr W) => has_any F (.slice (some ⟨b, o, none⟩) k c) (xs.take k) xs[k] W (take_sl (Hs.out W (hc.trans hW)) k (by omega)) (by simp; omega))
      generalize xs[k] = x at *
      have cd := (Chg.refl No wr).drew
      rcases (show x < 0 ∨ (¬ x < 0 ∧ 15 < x) ∨ (¬ x < 0 ∧ ¬ 15 < x) by omega) with h | ⟨h, h2⟩ | ⟨h, h2⟩
      · have Hr := Lib.hid (Hbad.out (by omega))
        go_wp2_with (with_reducible first | refine stop_append ?_ | refine stop_copy ?_ | refine stop_make ?_ | refine stop_lookup ?_ | refine stop_update ?_ | refine stop_slice ?_ | refine stop_range ?_ | refine stop_next ?_ | refine stop_convert ⟨_, rfl⟩ ?_ | refine stop_convertB ⟨_, _, _, rfl⟩ ?_ | refine stop_eqSlice ⟨_, _, rfl⟩ ?_)
        refine pl_start (fun W => W.cell? ⟨b, o + k, none⟩ = some (.int .i64 x) ∧ Chg No wr W) (by kernel_rfl) (by kernel_rfl) ⟨cd.cell hx0 (not_no _), cd⟩ ?_
        ((refine pl_yes (i := 0) (oi := { dst := some 10, op := .move (.tmp 0), type := 46, pos := "ref.go:31", after := #[], guard := none }) (v := ?_) rfl (by kernel_rfl) (by kernel_rfl) rfl ?_ ?_); rotate_left; focus (intro W hW; (try dsimp only at hW); go_split_ands; go_simp; (try (simp (disch := omega) only [IntWalk.i64_in]; (try go_simp))); (try (split; (next => omega); (try go_simp))); try rfl; done))
        try simp only [Act.put, List.setIfInBounds_toArray, List.set_cons_zero, List.set_cons_succ]
        ((refine pl_yes (i := 1) (oi := { dst := some 11, op := .move (.tmp 3), type := 3, pos := "ref.go:31", after := #[], guard := none }) (v := ?_) rfl (by kernel_rfl) (by kernel_rfl) rfl ?_ ?_); rotate_left; focus (intro W hW; (try dsimp only at hW); go_split_ands; go_simp; (try (simp (disch := omega) only [IntWalk.i64_in]; (try go_simp))); (try (split; (next => omega); (try go_simp))); try rfl; done))
        try simp only [Act.put, List.setIfInBounds_toArray, List.set_cons_zero, List.set_cons_succ]
        ((refine pl_yes (i := 2) (oi := { dst := some 12, op := .indexAddr 46 (.tmp 10) (.tmp 11), type := 0, pos := "ref.go:31", after := #[{ on := 0, ground := .data }, { on := 1, ground := .data }], guard := none }) (v := ?_) rfl (by kernel_rfl) (by kernel_rfl) rfl ?_ ?_); rotate_left; focus (intro W hW; (try dsimp only at hW); go_split_ands; go_simp; (try (simp (disch := omega) only [IntWalk.i64_in]; (try go_simp))); (try (split; (next => omega); (try go_simp))); try rfl; done))
        try simp only [Act.put, List.setIfInBounds_toArray, List.set_cons_zero, List.set_cons_succ]
        ((refine pl_yes (i := 3) (oi := { dst := some 13, op := .load 3 (.tmp 12), type := 3, pos := "ref.go:31", after := #[{ on := 2, ground := .data }], guard := none }) (v := ?_) rfl (by kernel_rfl) (by kernel_rfl) rfl ?_ ?_); rotate_left; focus (intro W hW; (try dsimp only at hW); go_split_ands; go_simp; (try (simp (disch := omega) only [IntWalk.i64_in]; (try go_simp))); (try (split; (next => omega); (try go_simp))); try rfl; done))
        try simp only [Act.put, List.setIfInBounds_toArray, List.set_cons_zero, List.set_cons_succ]
        ((refine pl_yes (i := 4) (oi := { dst := some 14, op := .binOp .lss 3 (.tmp 13) (.const (.int .i64 0)) 3, type := 4, pos := "ref.go:31", after := #[{ on := 3, ground := .data }], guard := none }) (v := ?_) rfl (by kernel_rfl) (by kernel_rfl) rfl ?_ ?_); rotate_left; focus (intro W hW; (try dsimp only at hW); go_split_ands; go_simp; (try (simp (disch := omega) only [IntWalk.i64_in]; (try go_simp))); (try (split; (next => omega); (try go_simp))); try rfl; done))
        try simp only [Act.put, List.setIfInBounds_toArray, List.set_cons_zero, List.set_cons_succ]
        ((refine pl_yes (i := 5) (oi := { dst := some 15, op := .move (.tmp 14), type := 4, pos := "ref.go:31", after := #[{ on := 4, ground := .data }], guard := none }) (v := ?_) rfl (by kernel_rfl) (by kernel_rfl) rfl ?_ ?_); rotate_left; focus (intro W hW; (try dsimp only at hW); go_split_ands; go_simp; (try (simp (disch := omega) only [IntWalk.i64_in]; (try go_simp))); (try (split; (next => omega); (try go_simp))); try rfl; done))
        try simp only [Act.put, List.setIfInBounds_toArray, List.set_cons_zero, List.set_cons_succ]
        first | (refine pl_no (i := 6) (oi := { dst := some 16, op := .move (.tmp 0), type := 46, pos := "ref.go:31", after := #[{ on := 5, ground := .guard }], guard := some (5, false) }) rfl (by kernel_rfl) (by kernel_rfl) rfl ?_) | ((refine pl_yes (i := 6) (oi := { dst := some 16, op := .move (.tmp 0), type := 46, pos := "ref.go:31", after := #[{ on := 5, ground := .guard }], guard := some (5, false) }) (v := ?_) rfl (by kernel_rfl) (by kernel_rfl) rfl ?_ ?_); rotate_left; focus (intro W hW; (try dsimp only at hW); go_split_ands; go_simp; (try (simp (disch := omega) only [IntWalk.i64_in]; (try go_simp))); (try (split; (next => omega); (try go_simp))); try rfl; done))
        try simp only [Act.put, List.setIfInBounds_toArray, List.set_cons_zero, List.set_cons_succ]
        first | (refine pl_no (i := 7) (oi := { dst := some 17, op := .move (.tmp 3), type := 3, pos := "ref.go:31", after := #[{ on := 5, ground := .guard }], guard := some (5, false) }) rfl (by kernel_rfl) (by kernel_rfl) rfl ?_) | ((refine pl_yes (i := 7) (oi := { dst := some 17, op := .move (.tmp 3), type := 3, pos := "ref.go:31", after := #[{ on := 5, ground := .guard }], guard := some (5, false) }) (v := ?_) rfl (by kernel_rfl) (by kernel_rfl) rfl ?_ ?_); rotate_left; focus (intro W hW; (try dsimp only at hW); go_split_ands; go_simp; (try (simp (disch := omega) only [IntWalk.i64_in]; (try go_simp))); (try (split; (next => omega); (try go_simp))); try rfl; done))
        try simp only [Act.put, List.setIfInBounds_toArray, List.set_cons_zero, List.set_cons_succ]
        first | (refine pl_no (i := 8) (oi := { dst := some 18, op := .indexAddr 46 (.tmp 16) (.tmp 17), type := 0, pos := "ref.go:31", after := #[{ on := 6, ground := .data }, { on := 7, ground := .data }, { on := 5, ground := .guard }], guard := some (5, false) }) rfl (by kernel_rfl) (by kernel_rfl) rfl ?_) | ((refine pl_yes (i := 8) (oi := { dst := some 18, op := .indexAddr 46 (.tmp 16) (.tmp 17), type := 0, pos := "ref.go:31", after := #[{ on := 6, ground := .data }, { on := 7, ground := .data }, { on := 5, ground := .guard }], guard := some (5, false) }) (v := ?_) rfl (by kernel_rfl) (by kernel_rfl) rfl ?_ ?_); rotate_left; focus (intro W hW; (try dsimp only at hW); go_split_ands; go_simp; (try (simp (disch := omega) only [IntWalk.i64_in]; (try go_simp))); (try (split; (next => omega); (try go_simp))); try rfl; done))
        try simp only [Act.put, List.setIfInBounds_toArray, List.set_cons_zero, List.set_cons_succ]
        first | (refine pl_no (i := 9) (oi := { dst := some 19, op := .load 3 (.tmp 18), type := 3, pos := "ref.go:31", after := #[{ on := 8, ground := .data }, { on := 5, ground := .guard }], guard := some (5, false) }) rfl (by kernel_rfl) (by kernel_rfl) rfl ?_) | ((refine pl_yes (i := 9) (oi := { dst := some 19, op := .load 3 (.tmp 18), type := 3, pos := "ref.go:31", after := #[{ on := 8, ground := .data }, { on := 5, ground := .guard }], guard := some (5, false) }) (v := ?_) rfl (by kernel_rfl) (by kernel_rfl) rfl ?_ ?_); rotate_left; focus (intro W hW; (try dsimp only at hW); go_split_ands; go_simp; (try (simp (disch := omega) only [IntWalk.i64_in]; (try go_simp))); (try (split; (next => omega); (try go_simp))); try rfl; done))
        try simp only [Act.put, List.setIfInBounds_toArray, List.set_cons_zero, List.set_cons_succ]
        first | (refine pl_no (i := 10) (oi := { dst := some 20, op := .binOp .gtr 3 (.tmp 19) (.const (.int .i64 15)) 3, type := 4, pos := "ref.go:31", after := #[{ on := 9, ground := .data }, { on := 5, ground := .guard }], guard := some (5, false) }) rfl (by kernel_rfl) (by kernel_rfl) rfl ?_) | ((refine pl_yes (i := 10) (oi := { dst := some 20, op := .binOp .gtr 3 (.tmp 19) (.const (.int .i64 15)) 3, type := 4, pos := "ref.go:31", after := #[{ on := 9, ground := .data }, { on := 5, ground := .guard }], guard := some (5, false) }) (v := ?_) rfl (by kernel_rfl) (by kernel_rfl) rfl ?_ ?_); rotate_left; focus (intro W hW; (try dsimp only at hW); go_split_ands; go_simp; (try (simp (disch := omega) only [IntWalk.i64_in]; (try go_simp))); (try (split; (next => omega); (try go_simp))); try rfl; done))
        try simp only [Act.put, List.setIfInBounds_toArray, List.set_cons_zero, List.set_cons_succ]
        ((refine pl_yes (i := 11) (oi := { dst := some 21, op := .pick (.tmp 15) (.const (.bool true)) (.tmp 20), type := 4, pos := "ref.go:31", after := #[{ on := 5, ground := .data }, { on := 10, ground := .data }], guard := none }) (v := ?_) rfl (by kernel_rfl) (by kernel_rfl) rfl ?_ ?_); rotate_left; focus (intro W hW; (try dsimp only at hW); go_split_ands; go_simp; (try (simp (disch := omega) only [IntWalk.i64_in]; (try go_simp))); (try (split; (next => omega); (try go_simp))); try rfl; done))
        try simp only [Act.put, List.setIfInBounds_toArray, List.set_cons_zero, List.set_cons_succ]
        ((refine pl_yes (i := 12) (oi := { dst := some 22, op := .move (.tmp 21), type := 4, pos := "ref.go:31", after := #[{ on := 11, ground := .data }, { on := 5, ground := .chain }], guard := none }) (v := ?_) rfl (by kernel_rfl) (by kernel_rfl) rfl ?_ ?_); rotate_left; focus (intro W hW; (try dsimp only at hW); go_split_ands; go_simp; (try (simp (disch := omega) only [IntWalk.i64_in]; (try go_simp))); (try (split; (next => omega); (try go_simp))); try rfl; done))
        try simp only [Act.put, List.setIfInBounds_toArray, List.set_cons_zero, List.set_cons_succ]
        first | (refine pl_no (i := 13) (oi := { dst := some 23, op := .move (.tmp 0), type := 46, pos := "ref.go:31", after := #[{ on := 12, ground := .guard }], guard := some (12, false) }) rfl (by kernel_rfl) (by kernel_rfl) rfl ?_) | ((refine pl_yes (i := 13) (oi := { dst := some 23, op := .move (.tmp 0), type := 46, pos := "ref.go:31", after := #[{ on := 12, ground := .guard }], guard := some (12, false) }) (v := ?_) rfl (by kernel_rfl) (by kernel_rfl) rfl ?_ ?_); rotate_left; focus (intro W hW; (try dsimp only at hW); go_split_ands; go_simp; (try (simp (disch := omega) only [IntWalk.i64_in]; (try go_simp))); (try (split; (next => omega); (try go_simp))); try rfl; done))
        try simp only [Act.put, List.setIfInBounds_toArray, List.set_cons_zero, List.set_cons_succ]
        first | (refine pl_no (i := 14) (oi := { dst := some 24, op := .move (.tmp 3), type := 3, pos := "ref.go:31", after := #[{ on := 12, ground := .guard }], guard := some (12, false) }) rfl (by kernel_rfl) (by kernel_rfl) rfl ?_) | ((refine pl_yes (i := 14) (oi := { dst := some 24, op := .move (.tmp 3), type := 3, pos := "ref.go:31", after := #[{ on := 12, ground := .guard }], guard := some (12, false) }) (v := ?_) rfl (by kernel_rfl) (by kernel_rfl) rfl ?_ ?_); rotate_left; focus (intro W hW; (try dsimp only at hW); go_split_ands; go_simp; (try (simp (disch := omega) only [IntWalk.i64_in]; (try go_simp))); (try (split; (next => omega); (try go_simp))); try rfl; done))
        try simp only [Act.put, List.setIfInBounds_toArray, List.set_cons_zero, List.set_cons_succ]
        first | (refine pl_no (i := 15) (oi := { dst := some 25, op := .slice 46 (.tmp 23) none (some (.tmp 24)) none, type := 46, pos := "ref.go:31", after := #[{ on := 13, ground := .data }, { on := 14, ground := .data }, { on := 12, ground := .guard }], guard := some (12, false) }) rfl (by kernel_rfl) (by kernel_rfl) rfl ?_) | ((refine pl_yes (i := 15) (oi := { dst := some 25, op := .slice 46 (.tmp 23) none (some (.tmp 24)) none, type := 46, pos := "ref.go:31", after := #[{ on := 13, ground := .data }, { on := 14, ground := .data }, { on := 12, ground := .guard }], guard := some (12, false) }) (v := ?_) rfl (by kernel_rfl) (by kernel_rfl) rfl ?_ ?_); rotate_left; focus (intro W hW; (try dsimp only at hW); go_split_ands; go_simp; (try (simp (disch := omega) only [IntWalk.i64_in]; (try go_simp))); (try (split; (next => omega); (try go_simp))); try rfl; done))
        try simp only [Act.put, List.setIfInBounds_toArray, List.set_cons_zero, List.set_cons_succ]
        first | (refine pl_no (i := 16) (oi := { dst := some 26, op := .move (.tmp 0), type := 46, pos := "ref.go:31", after := #[{ on := 12, ground := .guard }], guard := some (12, false) }) rfl (by kernel_rfl) (by kernel_rfl) rfl ?_) | ((refine pl_yes (i := 16) (oi := { dst := some 26, op := .move (.tmp 0), type := 46, pos := "ref.go:31", after := #[{ on := 12, ground := .guard }], guard := some (12, false) }) (v := ?_) rfl (by kernel_rfl) (by kernel_rfl) rfl ?_ ?_); rotate_left; focus (intro W hW; (try dsimp only at hW); go_split_ands; go_simp; (try (simp (disch := omega) only [IntWalk.i64_in]; (try go_simp))); (try (split; (next => omega); (try go_simp))); try rfl; done))
        try simp only [Act.put, List.setIfInBounds_toArray, List.set_cons_zero, List.set_cons_succ]
        first | (refine pl_no (i := 17) (oi := { dst := some 27, op := .move (.tmp 3), type := 3, pos := "ref.go:31", after := #[{ on := 12, ground := .guard }], guard := some (12, false) }) rfl (by kernel_rfl) (by kernel_rfl) rfl ?_) | ((refine pl_yes (i := 17) (oi := { dst := some 27, op := .move (.tmp 3), type := 3, pos := "ref.go:31", after := #[{ on := 12, ground := .guard }], guard := some (12, false) }) (v := ?_) rfl (by kernel_rfl) (by kernel_rfl) rfl ?_ ?_); rotate_left; focus (intro W hW; (try dsimp only at hW); go_split_ands; go_simp; (try (simp (disch := omega) only [IntWalk.i64_in]; (try go_simp))); (try (split; (next => omega); (try go_simp))); try rfl; done))
        try simp only [Act.put, List.setIfInBounds_toArray, List.set_cons_zero, List.set_cons_succ]
        first | (refine pl_no (i := 18) (oi := { dst := some 28, op := .indexAddr 46 (.tmp 26) (.tmp 27), type := 0, pos := "ref.go:31", after := #[{ on := 16, ground := .data }, { on := 17, ground := .data }, { on := 12, ground := .guard }], guard := some (12, false) }) rfl (by kernel_rfl) (by kernel_rfl) rfl ?_) | ((refine pl_yes (i := 18) (oi := { dst := some 28, op := .indexAddr 46 (.tmp 26) (.tmp 27), type := 0, pos := "ref.go:31", after := #[{ on := 16, ground := .data }, { on := 17, ground := .data }, { on := 12, ground := .guard }], guard := some (12, false) }) (v := ?_) rfl (by kernel_rfl) (by kernel_rfl) rfl ?_ ?_); rotate_left; focus (intro W hW; (try dsimp only at hW); go_split_ands; go_simp; (try (simp (disch := omega) only [IntWalk.i64_in]; (try go_simp))); (try (split; (next => omega); (try go_simp))); try rfl; done))
        try simp only [Act.put, List.setIfInBounds_toArray, List.set_cons_zero, List.set_cons_succ]
        first | (refine pl_no (i := 19) (oi := { dst := some 29, op := .load 3 (.tmp 28), type := 3, pos := "ref.go:31", after := #[{ on := 18, ground := .data }, { on := 12, ground := .guard }], guard := some (12, false) }) rfl (by kernel_rfl) (by kernel_rfl) rfl ?_) | ((refine pl_yes (i := 19) (oi := { dst := some 29, op := .load 3 (.tmp 28), type := 3, pos := "ref.go:31", after := #[{ on := 18, ground := .data }, { on := 12, ground := .guard }], guard := some (12, false) }) (v := ?_) rfl (by kernel_rfl) (by kernel_rfl) rfl ?_ ?_); rotate_left; focus (intro W hW; (try dsimp only at hW); go_split_ands; go_simp; (try (simp (disch := omega) only [IntWalk.i64_in]; (try go_simp))); (try (split; (next => omega); (try go_simp))); try rfl; done))
        try simp only [Act.put, List.setIfInBounds_toArray, List.set_cons_zero, List.set_cons_succ]
        refine pl_no (i := 20) (oi := { dst := some 30, op := .call { callee := .value (.func 100), args := #[.tmp 25, .tmp 29], argTypes := #[46, 3] }, type := 4, pos := "ref.go:31", after := #[{ on := 15, ground := .data }, { on := 19, ground := .data }, { on := 12, ground := .chain }, { on := 12, ground := .guard }], guard := some (12, false) }) rfl (by kernel_rfl) (by kernel_rfl) rfl ?_
        try simp only [Act.put, List.setIfInBounds_toArray, List.set_cons_zero, List.set_cons_succ]
        ((refine pl_yes (i := 21) (oi := { dst := some 31, op := .pick (.tmp 22) (.const (.bool true)) (.tmp 30), type := 4, pos := "ref.go:31", after := #[{ on := 12, ground := .data }, { on := 20, ground := .data }], guard := none }) (v := ?_) rfl (by kernel_rfl) (by kernel_rfl) rfl ?_ ?_); rotate_left; focus (intro W hW; (try dsimp only at hW); go_split_ands; go_simp; (try (simp (disch := omega) only [IntWalk.i64_in]; (try go_simp))); (try (split; (next => omega); (try go_simp))); try rfl; done))
        try simp only [Act.put, List.setIfInBounds_toArray, List.set_cons_zero, List.set_cons_succ]
        refine pl_done (by kernel_rfl)  ?_
        rintro w2 ⟨-, hc2⟩
        go_wp2_with (with_reducible first | refine stop_append ?_ | refine stop_copy ?_ | refine stop_make ?_ | refine stop_lookup ?_ | refine stop_update ?_ | refine stop_slice ?_ | refine stop_range ?_ | refine stop_next ?_ | refine stop_convert ⟨_, rfl⟩ ?_ | refine stop_convertB ⟨_, _, _, rfl⟩ ?_ | refine stop_eqSlice ⟨_, _, rfl⟩ ?_)
        go_ret
        exact ⟨by rw [Hr.out]; rfl, hc.trans hc2⟩
      · have Hr := Lib.hid (Hbad.out (by omega))
        have e1 : decide (x < 0) = false := decide_eq_false h
        have e2 : decide (15 < x) = true := decide_eq_true h2
        go_wp2_with (with_reducible first | refine stop_append ?_ | refine stop_copy ?_ | refine stop_make ?_ | refine stop_lookup ?_ | refine stop_update ?_ | refine stop_slice ?_ | refine stop_range ?_ | refine stop_next ?_ | refine stop_convert ⟨_, rfl⟩ ?_ | refine stop_convertB ⟨_, _, _, rfl⟩ ?_ | refine stop_eqSlice ⟨_, _, rfl⟩ ?_)
        refine pl_start (fun W => W.cell? ⟨b, o + k, none⟩ = some (.int .i64 x) ∧ Chg No wr W) (by kernel_rfl) (by kernel_rfl) ⟨cd.cell hx0 (not_no _), cd⟩ ?_
        ((refine pl_yes (i := 0) (oi := { dst := some 10, op := .move (.tmp 0), type := 46, pos := "ref.go:31", after := #[], guard := none }) (v := ?_) rfl (by kernel_rfl) (by kernel_rfl) rfl ?_ ?_); rotate_left; focus (intro W hW; (try dsimp only at hW); go_split_ands; go_simp; (try (simp (disch := omega) only [IntWalk.i64_in]; (try go_simp))); (try (split; (next => omega); (try go_simp))); try rfl; done))
        try simp only [Act.put, List.setIfInBounds_toArray, List.set_cons_zero, List.set_cons_succ]
        ((refine pl_yes (i := 1) (oi := { dst := some 11, op := .move (.tmp 3), type := 3, pos := "ref.go:31", after := #[], guard := none }) (v := ?_) rfl (by kernel_rfl) (by kernel_rfl) rfl ?_ ?_); rotate_left; focus (intro W hW; (try dsimp only at hW); go_split_ands; go_simp; (try (simp (disch := omega) only [IntWalk.i64_in]; (try go_simp))); (try (split; (next => omega); (try go_simp))); try rfl; done))
        try simp only [Act.put, List.setIfInBounds_toArray, List.set_cons_zero, List.set_cons_succ]
        ((refine pl_yes (i := 2) (oi := { dst := some 12, op := .indexAddr 46 (.tmp 10) (.tmp 11), type := 0, pos := "ref.go:31", after := #[{ on := 0, ground := .data }, { on := 1, ground := .data }], guard := none }) (v := ?_) rfl (by kernel_rfl) (by kernel_rfl) rfl ?_ ?_); rotate_left; focus (intro W hW; (try dsimp only at hW); go_split_ands; go_simp; (try (simp (disch := omega) only [IntWalk.i64_in]; (try go_simp))); (try (split; (next => omega); (try go_simp))); try rfl; done))
        try simp only [Act.put, List.setIfInBounds_toArray, List.set_cons_zero, List.set_cons_succ]
        ((refine pl_yes (i := 3) (oi := { dst := some 13, op := .load 3 (.tmp 12), type := 3, pos := "ref.go:31", after := #[{ on := 2, ground := .data }], guard := none }) (v := ?_) rfl (by kernel_rfl) (by kernel_rfl) rfl ?_ ?_); rotate_left; focus (intro W hW; (try dsimp only at hW); go_split_ands; go_simp; (try (simp (disch := omega) only [IntWalk.i64_in]; (try go_simp))); (try (split; (next => omega); (try go_simp))); try rfl; done))
        try simp only [Act.put, List.setIfInBounds_toArray, List.set_cons_zero, List.set_cons_succ]
        ((refine pl_yes (i := 4) (oi := { dst := some 14, op := .binOp .lss 3 (.tmp 13) (.const (.int .i64 0)) 3, type := 4, pos := "ref.go:31", after := #[{ on := 3, ground := .data }], guard := none }) (v := ?_) rfl (by kernel_rfl) (by kernel_rfl) rfl ?_ ?_); rotate_left; focus (intro W hW; (try dsimp only at hW); go_split_ands; go_simp; (try (simp (disch := omega) only [IntWalk.i64_in]; (try go_simp))); (try (split; (next => omega); (try go_simp))); try rfl; done))
        try simp only [Act.put, List.setIfInBounds_toArray, List.set_cons_zero, List.set_cons_succ]
        ((refine pl_yes (i := 5) (oi := { dst := some 15, op := .move (.tmp 14), type := 4, pos := "ref.go:31", after := #[{ on := 4, ground := .data }], guard := none }) (v := ?_) rfl (by kernel_rfl) (by kernel_rfl) rfl ?_ ?_); rotate_left; focus (intro W hW; (try dsimp only at hW); go_split_ands; go_simp; (try (simp (disch := omega) only [IntWalk.i64_in]; (try go_simp))); (try (split; (next => omega); (try go_simp))); try rfl; done))
        try simp only [Act.put, List.setIfInBounds_toArray, List.set_cons_zero, List.set_cons_succ]
        first | (refine pl_no (i := 6) (oi := { dst := some 16, op := .move (.tmp 0), type := 46, pos := "ref.go:31", after := #[{ on := 5, ground := .guard }], guard := some (5, false) }) rfl (by kernel_rfl) (by kernel_rfl) rfl ?_) | ((refine pl_yes (i := 6) (oi := { dst := some 16, op := .move (.tmp 0), type := 46, pos := "ref.go:31", after := #[{ on := 5, ground := .guard }], guard := some (5, false) }) (v := ?_) rfl (by kernel_rfl) (by kernel_rfl) rfl ?_ ?_); rotate_left; focus (intro W hW; (try dsimp only at hW); go_split_ands; go_simp; (try (simp (disch := omega) only [IntWalk.i64_in]; (try go_simp))); (try (split; (next => omega); (try go_simp))); try rfl; done))
        try simp only [Act.put, List.setIfInBounds_toArray, List.set_cons_zero, List.set_cons_succ]
        first | (refine pl_no (i := 7) (oi := { dst := some 17, op := .move (.tmp 3), type := 3, pos := "ref.go:31", after := #[{ on := 5, ground := .guard }], guard := some (5, false) }) rfl (by kernel_rfl) (by kernel_rfl) rfl ?_) | ((refine pl_yes (i := 7) (oi := { dst := some 17, op := .move (.tmp 3), type := 3, pos := "ref.go:31", after := #[{ on := 5, ground := .guard }], guard := some (5, false) }) (v := ?_) rfl (by kernel_rfl) (by kernel_rfl) rfl ?_ ?_); rotate_left; focus (intro W hW; (try dsimp only at hW); go_split_ands; go_simp; (try (simp (disch := omega) only [IntWalk.i64_in]; (try go_simp))); (try (split; (next => omega); (try go_simp))); try rfl; done))
        try simp only [Act.put, List.setIfInBounds_toArray, List.set_cons_zero, List.set_cons_succ]
        first | (refine pl_no (i := 8) (oi := { dst := some 18, op := .indexAddr 46 (.tmp 16) (.tmp 17), type := 0, pos := "ref.go:31", after := #[{ on := 6, ground := .data }, { on := 7, ground := .data }, { on := 5, ground := .guard }], guard := some (5, false) }) rfl (by kernel_rfl) (by kernel_rfl) rfl ?_) | ((refine pl_yes (i := 8) (oi := { dst := some 18, op := .indexAddr 46 (.tmp 16) (.tmp 17), type := 0, pos := "ref.go:31", after := #[{ on := 6, ground := .data }, { on := 7, ground := .data }, { on := 5, ground := .guard }], guard := some (5, false) }) (v := ?_) rfl (by kernel_rfl) (by kernel_rfl) rfl ?_ ?_); rotate_left; focus (intro W hW; (try dsimp only at hW); go_split_ands; go_simp; (try (simp (disch := omega) only [IntWalk.i64_in]; (try go_simp))); (try (split; (next => omega); (try go_simp))); try rfl; done))
        try simp only [Act.put, List.setIfInBounds_toArray, List.set_cons_zero, List.set_cons_succ]
        first | (refine pl_no (i := 9) (oi := { dst := some 19, op := .load 3 (.tmp 18), type := 3, pos := "ref.go:31", after := #[{ on := 8, ground := .data }, { on := 5, ground := .guard }], guard := some (5, false) }) rfl (by kernel_rfl) (by kernel_rfl) rfl ?_) | ((refine pl_yes (i := 9) (oi := { dst := some 19, op := .load 3 (.tmp 18), type := 3, pos := "ref.go:31", after := #[{ on := 8, ground := .data }, { on := 5, ground := .guard }], guard := some (5, false) }) (v := ?_) rfl (by kernel_rfl) (by kernel_rfl) rfl ?_ ?_); rotate_left; focus (intro W hW; (try dsimp only at hW); go_split_ands; go_simp; (try (simp (disch := omega) only [IntWalk.i64_in]; (try go_simp))); (try (split; (next => omega); (try go_simp))); try rfl; done))
        try simp only [Act.put, List.setIfInBounds_toArray, List.set_cons_zero, List.set_cons_succ]
        first | (refine pl_no (i := 10) (oi := { dst := some 20, op := .binOp .gtr 3 (.tmp 19) (.const (.int .i64 15)) 3, type := 4, pos := "ref.go:31", after := #[{ on := 9, ground := .data }, { on := 5, ground := .guard }], guard := some (5, false) }) rfl (by kernel_rfl) (by kernel_rfl) rfl ?_) | ((refine pl_yes (i := 10) (oi := { dst := some 20, op := .binOp .gtr 3 (.tmp 19) (.const (.int .i64 15)) 3, type := 4, pos := "ref.go:31", after := #[{ on := 9, ground := .data }, { on := 5, ground := .guard }], guard := some (5, false) }) (v := ?_) rfl (by kernel_rfl) (by kernel_rfl) rfl ?_ ?_); rotate_left; focus (intro W hW; (try dsimp only at hW); go_split_ands; go_simp; (try (simp (disch := omega) only [IntWalk.i64_in]; (try go_simp))); (try (split; (next => omega); (try go_simp))); try rfl; done))
        try simp only [Act.put, List.setIfInBounds_toArray, List.set_cons_zero, List.set_cons_succ]
        ((refine pl_yes (i := 11) (oi := { dst := some 21, op := .pick (.tmp 15) (.const (.bool true)) (.tmp 20), type := 4, pos := "ref.go:31", after := #[{ on := 5, ground := .data }, { on := 10, ground := .data }], guard := none }) (v := ?_) rfl (by kernel_rfl) (by kernel_rfl) rfl ?_ ?_); rotate_left; focus (intro W hW; (try dsimp only at hW); go_split_ands; go_simp; (try (simp (disch := omega) only [IntWalk.i64_in]; (try go_simp))); (try (split; (next => omega); (try go_simp))); try rfl; done))
        try simp only [Act.put, List.setIfInBounds_toArray, List.set_cons_zero, List.set_cons_succ]
        ((refine pl_yes (i := 12) (oi := { dst := some 22, op := .move (.tmp 21), type := 4, pos := "ref.go:31", after := #[{ on := 11, ground := .data }, { on := 5, ground := .chain }], guard := none }) (v := ?_) rfl (by kernel_rfl) (by kernel_rfl) rfl ?_ ?_); rotate_left; focus (intro W hW; (try dsimp only at hW); go_split_ands; go_simp; (try (simp (disch := omega) only [IntWalk.i64_in]; (try go_simp))); (try (split; (next => omega); (try go_simp))); try rfl; done))
        try simp only [Act.put, List.setIfInBounds_toArray, List.set_cons_zero, List.set_cons_succ]
        first | (refine pl_no (i := 13) (oi := { dst := some 23, op := .move (.tmp 0), type := 46, pos := "ref.go:31", after := #[{ on := 12, ground := .guard }], guard := some (12, false) }) rfl (by kernel_rfl) (by kernel_rfl) rfl ?_) | ((refine pl_yes (i := 13) (oi := { dst := some 23, op := .move (.tmp 0), type := 46, pos := "ref.go:31", after := #[{ on := 12, ground := .guard }], guard := some (12, false) }) (v := ?_) rfl (by kernel_rfl) (by kernel_rfl) rfl ?_ ?_); rotate_left; focus (intro W hW; (try dsimp only at hW); go_split_ands; go_simp; (try (simp (disch := omega) only [IntWalk.i64_in]; (try go_simp))); (try (split; (next => omega); (try go_simp))); try rfl; done))
        try simp only [Act.put, List.setIfInBounds_toArray, List.set_cons_zero, List.set_cons_succ]
        first | (refine pl_no (i := 14) (oi := { dst := some 24, op := .move (.tmp 3), type := 3, pos := "ref.go:31", after := #[{ on := 12, ground := .guard }], guard := some (12, false) }) rfl (by kernel_rfl) (by kernel_rfl) rfl ?_) | ((refine pl_yes (i := 14) (oi := { dst := some 24, op := .move (.tmp 3), type := 3, pos := "ref.go:31", after := #[{ on := 12, ground := .guard }], guard := some (12, false) }) (v := ?_) rfl (by kernel_rfl) (by kernel_rfl) rfl ?_ ?_); rotate_left; focus (intro W hW; (try dsimp only at hW); go_split_ands; go_simp; (try (simp (disch := omega) only [IntWalk.i64_in]; (try go_simp))); (try (split; (next => omega); (try go_simp))); try rfl; done))
        try simp only [Act.put, List.setIfInBounds_toArray, List.set_cons_zero, List.set_cons_succ]
        first | (refine pl_no (i := 15) (oi := { dst := some 25, op := .slice 46 (.tmp 23) none (some (.tmp 24)) none, type := 46, pos := "ref.go:31", after := #[{ on := 13, ground := .data }, { on := 14, ground := .data }, { on := 12, ground := .guard }], guard := some (12, false) }) rfl (by kernel_rfl) (by kernel_rfl) rfl ?_) | ((refine pl_yes (i := 15) (oi := { dst := some 25, op := .slice 46 (.tmp 23) none (some (.tmp 24)) none, type := 46, pos := "ref.go:31", after := #[{ on := 13, ground := .data }, { on := 14, ground := .data }, { on := 12, ground := .guard }], guard := some (12, false) }) (v := ?_) rfl (by kernel_rfl) (by kernel_rfl) rfl ?_ ?_); rotate_left; focus (intro W hW; (try dsimp only at hW); go_split_ands; go_simp; (try (simp (disch := omega) only [IntWalk.i64_in]; (try go_simp))); (try (split; (next => omega); (try go_simp))); try rfl; done))
        try simp only [Act.put, List.setIfInBounds_toArray, List.set_cons_zero, List.set_cons_succ]
        first | (refine pl_no (i := 16) (oi := { dst := some 26, op := .move (.tmp 0), type := 46, pos := "ref.go:31", after := #[{ on := 12, ground := .guard }], guard := some (12, false) }) rfl (by kernel_rfl) (by kernel_rfl) rfl ?_) | ((refine pl_yes (i := 16) (oi := { dst := some 26, op := .move (.tmp 0), type := 46, pos := "ref.go:31", after := #[{ on := 12, ground := .guard }], guard := some (12, false) }) (v := ?_) rfl (by kernel_rfl) (by kernel_rfl) rfl ?_ ?_); rotate_left; focus (intro W hW; (try dsimp only at hW); go_split_ands; go_simp; (try (simp (disch := omega) only [IntWalk.i64_in]; (try go_simp))); (try (split; (next => omega); (try go_simp))); try rfl; done))
        try simp only [Act.put, List.setIfInBounds_toArray, List.set_cons_zero, List.set_cons_succ]
        first | (refine pl_no (i := 17) (oi := { dst := some 27, op := .move (.tmp 3), type := 3, pos := "ref.go:31", after := #[{ on := 12, ground := .guard }], guard := some (12, false) }) rfl (by kernel_rfl) (by kernel_rfl) rfl ?_) | ((refine pl_yes (i := 17) (oi := { dst := some 27, op := .move (.tmp 3), type := 3, pos := "ref.go:31", after := #[{ on := 12, ground := .guard }], guard := some (12, false) }) (v := ?_) rfl (by kernel_rfl) (by kernel_rfl) rfl ?_ ?_); rotate_left; focus (intro W hW; (try dsimp only at hW); go_split_ands; go_simp; (try (simp (disch := omega) only [IntWalk.i64_in]; (try go_simp))); (try (split; (next => omega); (try go_simp))); try rfl; done))
        try simp only [Act.put, List.setIfInBounds_toArray, List.set_cons_zero, List.set_cons_succ]
        first | (refine pl_no (i := 18) (oi := { dst := some 28, op := .indexAddr 46 (.tmp 26) (.tmp 27), type := 0, pos := "ref.go:31", after := #[{ on := 16, ground := .data }, { on := 17, ground := .data }, { on := 12, ground := .guard }], guard := some (12, false) }) rfl (by kernel_rfl) (by kernel_rfl) rfl ?_) | ((refine pl_yes (i := 18) (oi := { dst := some 28, op := .indexAddr 46 (.tmp 26) (.tmp 27), type := 0, pos := "ref.go:31", after := #[{ on := 16, ground := .data }, { on := 17, ground := .data }, { on := 12, ground := .guard }], guard := some (12, false) }) (v := ?_) rfl (by kernel_rfl) (by kernel_rfl) rfl ?_ ?_); rotate_left; focus (intro W hW; (try dsimp only at hW); go_split_ands; go_simp; (try (simp (disch := omega) only [IntWalk.i64_in]; (try go_simp))); (try (split; (next => omega); (try go_simp))); try rfl; done))
        try simp only [Act.put, List.setIfInBounds_toArray, List.set_cons_zero, List.set_cons_succ]
        first | (refine pl_no (i := 19) (oi := { dst := some 29, op := .load 3 (.tmp 28), type := 3, pos := "ref.go:31", after := #[{ on := 18, ground := .data }, { on := 12, ground := .guard }], guard := some (12, false) }) rfl (by kernel_rfl) (by kernel_rfl) rfl ?_) | ((refine pl_yes (i := 19) (oi := { dst := some 29, op := .load 3 (.tmp 28), type := 3, pos := "ref.go:31", after := #[{ on := 18, ground := .data }, { on := 12, ground := .guard }], guard := some (12, false) }) (v := ?_) rfl (by kernel_rfl) (by kernel_rfl) rfl ?_ ?_); rotate_left; focus (intro W hW; (try dsimp only at hW); go_split_ands; go_simp; (try (simp (disch := omega) only [IntWalk.i64_in]; (try go_simp))); (try (split; (next => omega); (try go_simp))); try rfl; done))
        try simp only [Act.put, List.setIfInBounds_toArray, List.set_cons_zero, List.set_cons_succ]
        refine pl_no (i := 20) (oi := { dst := some 30, op := .call { callee := .value (.func 100), args := #[.tmp 25, .tmp 29], argTypes := #[46, 3] }, type := 4, pos := "ref.go:31", after := #[{ on := 15, ground := .data }, { on := 19, ground := .data }, { on := 12, ground := .chain }, { on := 12, ground := .guard }], guard := some (12, false) }) rfl (by kernel_rfl) (by kernel_rfl) rfl ?_
        try simp only [Act.put, List.setIfInBounds_toArray, List.set_cons_zero, List.set_cons_succ]
        ((refine pl_yes (i := 21) (oi := { dst := some 31, op := .pick (.tmp 22) (.const (.bool true)) (.tmp 30), type := 4, pos := "ref.go:31", after := #[{ on := 12, ground := .data }, { on := 20, ground := .data }], guard := none }) (v := ?_) rfl (by kernel_rfl) (by kernel_rfl) rfl ?_ ?_); rotate_left; focus (intro W hW; (try dsimp only at hW); go_split_ands; go_simp; (try (simp (disch := omega) only [IntWalk.i64_in]; (try go_simp))); (try (split; (next => omega); (try go_simp))); try rfl; done))
        try simp only [Act.put, List.setIfInBounds_toArray, List.set_cons_zero, List.set_cons_succ]
        refine pl_done (by kernel_rfl)  ?_
        rintro w2 ⟨-, hc2⟩
        go_wp2_with (with_reducible first | refine stop_append ?_ | refine stop_copy ?_ | refine stop_make ?_ | refine stop_lookup ?_ | refine stop_update ?_ | refine stop_slice ?_ | refine stop_range ?_ | refine stop_next ?_ | refine stop_convert ⟨_, rfl⟩ ?_ | refine stop_convertB ⟨_, _, _, rfl⟩ ?_ | refine stop_eqSlice ⟨_, _, rfl⟩ ?_)
        go_ret
        exact ⟨by rw [Hr.out]; rfl, hc.trans hc2⟩
      · have e1 : decide (x < 0) = false := decide_eq_false h
        have e2 : decide (15 < x) = false := decide_eq_false h2
        have Hdup' := Lib.hid (fun h => Hdup.out h)
        have Hgo' := Lib.hid (fun h' => Hgo.out (by omega) h')
        obtain ⟨hb, hhb⟩ : ∃ hb, hb = decide (x ∈ xs.take k) := ⟨_, rfl⟩
        rw [← hhb] at Hhas
        have Hhb := Lib.hid hhb
        clear hhb Hbad
        go_wp2_with (with_reducible first | refine stop_append ?_ | refine stop_copy ?_ | refine stop_make ?_ | refine stop_lookup ?_ | refine stop_update ?_ | refine stop_slice ?_ | refine stop_range ?_ | refine stop_next ?_ | refine stop_convert ⟨_, rfl⟩ ?_ | refine stop_convertB ⟨_, _, _, rfl⟩ ?_ | refine stop_eqSlice ⟨_, _, rfl⟩ ?_)
        refine pl_start (fun W => W.cell? ⟨b, o + k, none⟩ = some (.int .i64 x) ∧ Chg No wr W) (by kernel_rfl) (by kernel_rfl) ⟨cd.cell hx0 (not_no _), cd⟩ ?_
        ((refine pl_yes (i := 0) (oi := { dst := some 10, op := .move (.tmp 0), type := 46, pos := "ref.go:31", after := #[], guard := none }) (v := ?_) rfl (by kernel_rfl) (by kernel_rfl) rfl ?_ ?_); rotate_left; focus (intro W hW; (try dsimp only at hW); go_split_ands; go_simp; (try (simp (disch := omega) only [IntWalk.i64_in]; (try go_simp))); (try (split; (next => omega); (try go_simp))); try rfl; done))
        try simp only [Act.put, List.setIfInBounds_toArray, List.set_cons_zero, List.set_cons_succ]
        ((refine pl_yes (i := 1) (oi := { dst := some 11, op := .move (.tmp 3), type := 3, pos := "ref.go:31", after := #[], guard := none }) (v := ?_) rfl (by kernel_rfl) (by kernel_rfl) rfl ?_ ?_); rotate_left; focus (intro W hW; (try dsimp only at hW); go_split_ands; go_simp; (try (simp (disch := omega) only [IntWalk.i64_in]; (try go_simp))); (try (split; (next => omega); (try go_simp))); try rfl; done))
        try simp only [Act.put, List.setIfInBounds_toArray, List.set_cons_zero, List.set_cons_succ]
        ((refine pl_yes (i := 2) (oi := { dst := some 12, op := .indexAddr 46 (.tmp 10) (.tmp 11), type := 0, pos := "ref.go:31", after := #[{ on := 0, ground := .data }, { on := 1, ground := .data }], guard := none }) (v := ?_) rfl (by kernel_rfl) (by kernel_rfl) rfl ?_ ?_); rotate_left; focus (intro W hW; (try dsimp only at hW); go_split_ands; go_simp; (try (simp (disch := omega) only [IntWalk.i64_in]; (try go_simp))); (try (split; (next => omega); (try go_simp))); try rfl; done))
        try simp only [Act.put, List.setIfInBounds_toArray, List.set_cons_zero, List.set_cons_succ]
        ((refine pl_yes (i := 3) (oi := { dst := some 13, op := .load 3 (.tmp 12), type := 3, pos := "ref.go:31", after := #[{ on := 2, ground := .data }], guard := none }) (v := ?_) rfl (by kernel_rfl) (by kernel_rfl) rfl ?_ ?_); rotate_left; focus (intro W hW; (try dsimp only at hW); go_split_ands; go_simp; (try (simp (disch := omega) only [IntWalk.i64_in]; (try go_simp))); (try (split; (next => omega); (try go_simp))); try rfl; done))
        try simp only [Act.put, List.setIfInBounds_toArray, List.set_cons_zero, List.set_cons_succ]
        ((refine pl_yes (i := 4) (oi := { dst := some 14, op := .binOp .lss 3 (.tmp 13) (.const (.int .i64 0)) 3, type := 4, pos := "ref.go:31", after := #[{ on := 3, ground := .data }], guard := none }) (v := ?_) rfl (by kernel_rfl) (by kernel_rfl) rfl ?_ ?_); rotate_left; focus (intro W hW; (try dsimp only at hW); go_split_ands; go_simp; (try (simp (disch := omega) only [IntWalk.i64_in]; (try go_simp))); (try (split; (next => omega); (try go_simp))); try rfl; done))
        try simp only [Act.put, List.setIfInBounds_toArray, List.set_cons_zero, List.set_cons_succ]
        ((refine pl_yes (i := 5) (oi := { dst := some 15, op := .move (.tmp 14), type := 4, pos := "ref.go:31", after := #[{ on := 4, ground := .data }], guard := none }) (v := ?_) rfl (by kernel_rfl) (by kernel_rfl) rfl ?_ ?_); rotate_left; focus (intro W hW; (try dsimp only at hW); go_split_ands; go_simp; (try (simp (disch := omega) only [IntWalk.i64_in]; (try go_simp))); (try (split; (next => omega); (try go_simp))); try rfl; done))
        try simp only [Act.put, List.setIfInBounds_toArray, List.set_cons_zero, List.set_cons_succ]
        first | (refine pl_no (i := 6) (oi := { dst := some 16, op := .move (.tmp 0), type := 46, pos := "ref.go:31", after := #[{ on := 5, ground := .guard }], guard := some (5, false) }) rfl (by kernel_rfl) (by kernel_rfl) rfl ?_) | ((refine pl_yes (i := 6) (oi := { dst := some 16, op := .move (.tmp 0), type := 46, pos := "ref.go:31", after := #[{ on := 5, ground := .guard }], guard := some (5, false) }) (v := ?_) rfl (by kernel_rfl) (by kernel_rfl) rfl ?_ ?_); rotate_left; focus (intro W hW; (try dsimp only at hW); go_split_ands; go_simp; (try (simp (disch := omega) only [IntWalk.i64_in]; (try go_simp))); (try (split; (next => omega); (try go_simp))); try rfl; done))
        try simp only [Act.put, List.setIfInBounds_toArray, List.set_cons_zero, List.set_cons_succ]
        first | (refine pl_no (i := 7) (oi := { dst := some 17, op := .move (.tmp 3), type := 3, pos := "ref.go:31", after := #[{ on := 5, ground := .guard }], guard := some (5, false) }) rfl (by kernel_rfl) (by kernel_rfl) rfl ?_) | ((refine pl_yes (i := 7) (oi := { dst := some 17, op := .move (.tmp 3), type := 3, pos := "ref.go:31", after := #[{ on := 5, ground := .guard }], guard := some (5, false) }) (v := ?_) rfl (by kernel_rfl) (by kernel_rfl) rfl ?_ ?_); rotate_left; focus (intro W hW; (try dsimp only at hW); go_split_ands; go_simp; (try (simp (disch := omega) only [IntWalk.i64_in]; (try go_simp))); (try (split; (next => omega); (try go_simp))); try rfl; done))
        try simp only [Act.put, List.setIfInBounds_toArray, List.set_cons_zero, List.set_cons_succ]
        first | (refine pl_no (i := 8) (oi := { dst := some 18, op := .indexAddr 46 (.tmp 16) (.tmp 17), type := 0, pos := "ref.go:31", after := #[{ on := 6, ground := .data }, { on := 7, ground := .data }, { on := 5, ground := .guard }], guard := some (5, false) }) rfl (by kernel_rfl) (by kernel_rfl) rfl ?_) | ((refine pl_yes (i := 8) (oi := { dst := some 18, op := .indexAddr 46 (.tmp 16) (.tmp 17), type := 0, pos := "ref.go:31", after := #[{ on := 6, ground := .data }, { on := 7, ground := .data }, { on := 5, ground := .guard }], guard := some (5, false) }) (v := ?_) rfl (by kernel_rfl) (by kernel_rfl) rfl ?_ ?_); rotate_left; focus (intro W hW; (try dsimp only at hW); go_split_ands; go_simp; (try (simp (disch := omega) only [IntWalk.i64_in]; (try go_simp))); (try (split; (next => omega); (try go_simp))); try rfl; done))
        try simp only [Act.put, List.setIfInBounds_toArray, List.set_cons_zero, List.set_cons_succ]
        first | (refine pl_no (i := 9) (oi := { dst := some 19, op := .load 3 (.tmp 18), type := 3, pos := "ref.go:31", after := #[{ on := 8, ground := .data }, { on := 5, ground := .guard }], guard := some (5, false) }) rfl (by kernel_rfl) (by kernel_rfl) rfl ?_) | ((refine pl_yes (i := 9) (oi := { dst := some 19, op := .load 3 (.tmp 18), type := 3, pos := "ref.go:31", after := #[{ on := 8, ground := .data }, { on := 5, ground := .guard }], guard := some (5, false) }) (v := ?_) rfl (by kernel_rfl) (by kernel_rfl) rfl ?_ ?_); rotate_left; focus (intro W hW; (try dsimp only at hW); go_split_ands; go_simp; (try (simp (disch := omega) only [IntWalk.i64_in]; (try go_simp))); (try (split; (next => omega); (try go_simp))); try rfl; done))
        try simp only [Act.put, List.setIfInBounds_toArray, List.set_cons_zero, List.set_cons_succ]
        first | (refine pl_no (i := 10) (oi := { dst := some 20, op := .binOp .gtr 3 (.tmp 19) (.const (.int .i64 15)) 3, type := 4, pos := "ref.go:31", after := #[{ on := 9, ground := .data }, { on := 5, ground := .guard }], guard := some (5, false) }) rfl (by kernel_rfl) (by kernel_rfl) rfl ?_) | ((refine pl_yes (i := 10) (oi := { dst := some 20, op := .binOp .gtr 3 (.tmp 19) (.const (.int .i64 15)) 3, type := 4, pos := "ref.go:31", after := #[{ on := 9, ground := .data }, { on := 5, ground := .guard }], guard := some (5, false) }) (v := ?_) rfl (by kernel_rfl) (by kernel_rfl) rfl ?_ ?_); rotate_left; focus (intro W hW; (try dsimp only at hW); go_split_ands; go_simp; (try (simp (disch := omega) only [IntWalk.i64_in]; (try go_simp))); (try (split; (next => omega); (try go_simp))); try rfl; done))
        try simp only [Act.put, List.setIfInBounds_toArray, List.set_cons_zero, List.set_cons_succ]
        ((refine pl_yes (i := 11) (oi := { dst := some 21, op := .pick (.tmp 15) (.const (.bool true)) (.tmp 20), type := 4, pos := "ref.go:31", after := #[{ on := 5, ground := .data }, { on := 10, ground := .data }], guard := none }) (v := ?_) rfl (by kernel_rfl) (by kernel_rfl) rfl ?_ ?_); rotate_left; focus (intro W hW; (try dsimp only at hW); go_split_ands; go_simp; (try (simp (disch := omega) only [IntWalk.i64_in]; (try go_simp))); (try (split; (next => omega); (try go_simp))); try rfl; done))
        try simp only [Act.put, List.setIfInBounds_toArray, List.set_cons_zero, List.set_cons_succ]
        ((refine pl_yes (i := 12) (oi := { dst := some 22, op := .move (.tmp 21), type := 4, pos := "ref.go:31", after := #[{ on := 11, ground := .data }, { on := 5, ground := .chain }], guard := none }) (v := ?_) rfl (by kernel_rfl) (by kernel_rfl) rfl ?_ ?_); rotate_left; focus (intro W hW; (try dsimp only at hW); go_split_ands; go_simp; (try (simp (disch := omega) only [IntWalk.i64_in]; (try go_simp))); (try (split; (next => omega); (try go_simp))); try rfl; done))
        try simp only [Act.put, List.setIfInBounds_toArray, List.set_cons_zero, List.set_cons_succ]
        first | (refine pl_no (i := 13) (oi := { dst := some 23, op := .move (.tmp 0), type := 46, pos := "ref.go:31", after := #[{ on := 12, ground := .guard }], guard := some (12, false) }) rfl (by kernel_rfl) (by kernel_rfl) rfl ?_) | ((refine pl_yes (i := 13) (oi := { dst := some 23, op := .move (.tmp 0), type := 46, pos := "ref.go:31", after := #[{ on := 12, ground := .guard }], guard := some (12, false) }) (v := ?_) rfl (by kernel_rfl) (by kernel_rfl) rfl ?_ ?_); rotate_left; focus (intro W hW; (try dsimp only at hW); go_split_ands; go_simp; (try (simp (disch := omega) only [IntWalk.i64_in]; (try go_simp))); (try (split; (next => omega); (try go_simp))); try rfl; done))
        try simp only [Act.put, List.setIfInBounds_toArray, List.set_cons_zero, List.set_cons_succ]
        first | (refine pl_no (i := 14) (oi := { dst := some 24, op := .move (.tmp 3), type := 3, pos := "ref.go:31", after := #[{ on := 12, ground := .guard }], guard := some (12, false) }) rfl (by kernel_rfl) (by kernel_rfl) rfl ?_) | ((refine pl_yes (i := 14) (oi := { dst := some 24, op := .move (.tmp 3), type := 3, pos := "ref.go:31", after := #[{ on := 12, ground := .guard }], guard := some (12, false) }) (v := ?_) rfl (by kernel_rfl) (by kernel_rfl) rfl ?_ ?_); rotate_left; focus (intro W hW; (try dsimp only at hW); go_split_ands; go_simp; (try (simp (disch := omega) only [IntWalk.i64_in]; (try go_simp))); (try (split; (next => omega); (try go_simp))); try rfl; done))
        try simp only [Act.put, List.setIfInBounds_toArray, List.set_cons_zero, List.set_cons_succ]
        first | (refine pl_no (i := 16) (oi := { dst := some 26, op := .move (.tmp 0), type := 46, pos := "ref.go:31", after := #[{ on := 12, ground := .guard }], guard := some (12, false) }) rfl (by kernel_rfl) (by kernel_rfl) rfl ?_) | ((refine pl_yes (i := 16) (oi := { dst := some 26, op := .move (.tmp 0), type := 46, pos := "ref.go:31", after := #[{ on := 12, ground := .guard }], guard := some (12, false) }) (v := ?_) rfl (by kernel_rfl) (by kernel_rfl) rfl ?_ ?_); rotate_left; focus (intro W hW; (try dsimp only at hW); go_split_ands; go_simp; (try (simp (disch := omega) only [IntWalk.i64_in]; (try go_simp))); (try (split; (next => omega); (try go_simp))); try rfl; done))
        try simp only [Act.put, List.setIfInBounds_toArray, List.set_cons_zero, List.set_cons_succ]
        first | (refine pl_no (i := 17) (oi := { dst := some 27, op := .move (.tmp 3), type := 3, pos := "ref.go:31", after := #[{ on := 12, ground := .guard }], guard := some (12, false) }) rfl (by kernel_rfl) (by kernel_rfl) rfl ?_) | ((refine pl_yes (i := 17) (oi := { dst := some 27, op := .move (.tmp 3), type := 3, pos := "ref.go:31", after := #[{ on := 12, ground := .guard }], guard := some (12, false) }) (v := ?_) rfl (by kernel_rfl) (by kernel_rfl) rfl ?_ ?_); rotate_left; focus (intro W hW; (try dsimp only at hW); go_split_ands; go_simp; (try (simp (disch := omega) only [IntWalk.i64_in]; (try go_simp))); (try (split; (next => omega); (try go_simp))); try rfl; done))
        try simp only [Act.put, List.setIfInBounds_toArray, List.set_cons_zero, List.set_cons_succ]
        first | (refine pl_no (i := 18) (oi := { dst := some 28, op := .indexAddr 46 (.tmp 26) (.tmp 27), type := 0, pos := "ref.go:31", after := #[{ on := 16, ground := .data }, { on := 17, ground := .data }, { on := 12, ground := .guard }], guard := some (12, false) }) rfl (by kernel_rfl) (by kernel_rfl) rfl ?_) | ((refine pl_yes (i := 18) (oi := { dst := some 28, op := .indexAddr 46 (.tmp 26) (.tmp 27), type := 0, pos := "ref.go:31", after := #[{ on := 16, ground := .data }, { on := 17, ground := .data }, { on := 12, ground := .guard }], guard := some (12, false) }) (v := ?_) rfl (by kernel_rfl) (by kernel_rfl) rfl ?_ ?_); rotate_left; focus (intro W hW; (try dsimp only at hW); go_split_ands; go_simp; (try (simp (disch := omega) only [IntWalk.i64_in]; (try go_simp))); (try (split; (next => omega); (try go_simp))); try rfl; done))
        try simp only [Act.put, List.setIfInBounds_toArray, List.set_cons_zero, List.set_cons_succ]
        first | (refine pl_no (i := 19) (oi := { dst := some 29, op := .load 3 (.tmp 28), type := 3, pos := "ref.go:31", after := #[{ on := 18, ground := .data }, { on := 12, ground := .guard }], guard := some (12, false) }) rfl (by kernel_rfl) (by kernel_rfl) rfl ?_) | ((refine pl_yes (i := 19) (oi := { dst := some 29, op := .load 3 (.tmp 28), type := 3, pos := "ref.go:31", after := #[{ on := 18, ground := .data }, { on := 12, ground := .guard }], guard := some (12, false) }) (v := ?_) rfl (by kernel_rfl) (by kernel_rfl) rfl ?_ ?_); rotate_left; focus (intro W hW; (try dsimp only at hW); go_split_ands; go_simp; (try (simp (disch := omega) only [IntWalk.i64_in]; (try go_simp))); (try (split; (next => omega); (try go_simp))); try rfl; done))
        try simp only [Act.put, List.setIfInBounds_toArray, List.set_cons_zero, List.set_cons_succ]
        refine pl_yes (i := 15) (oi := { dst := some 25, op := .slice 46 (.tmp 23) none (some (.tmp 24)) none, type := 46, pos := "ref.go:31", after := #[{ on := 13, ground := .data }, { on := 14, ground := .data }, { on := 12, ground := .guard }], guard := some (12, false) }) (v := (.slice (some ⟨b, o, none⟩) k c)) rfl (by kernel_rfl) (by kernel_rfl) rfl (by exact (fun W hW => take_run (α := Int) Try.underlying46 vinfo_int (Hs.out W (hc.trans hW.2)) rfl (kd := .i64) rfl (by omega))) ?_
        try simp only [Act.put, List.setIfInBounds_toArray, List.set_cons_zero, List.set_cons_succ]
        refine pl_call (i := 20) (oi := { dst := some 30, op := .call { callee := .value (.func 100), args := #[.tmp 25, .tmp 29], argTypes := #[46, 3] }, type := 4, pos := "ref.go:31", after := #[{ on := 15, ground := .data }, { on := 19, ground := .data }, { on := 12, ground := .chain }, { on := 12, ground := .guard }], guard := some (12, false) }) (.bool hb) rfl (by kernel_rfl) (by kernel_rfl) rfl (by exact (fun W hW => (Hhas.out W hW.2).mono fun e w' h => ⟨h.1, h.2.cell hW.1 (not_no _), hW.2.trans h.2⟩)) (fun W => by kernel_rfl) ?_
        try simp only [Act.put, List.setIfInBounds_toArray, List.set_cons_zero, List.set_cons_succ]
        ((refine pl_yes (i := 21) (oi := { dst := some 31, op := .pick (.tmp 22) (.const (.bool true)) (.tmp 30), type := 4, pos := "ref.go:31", after := #[{ on := 12, ground := .data }, { on := 20, ground := .data }], guard := none }) (v := ?_) rfl (by kernel_rfl) (by kernel_rfl) rfl ?_ ?_); rotate_left; focus (intro W hW; (try dsimp only at hW); go_split_ands; go_simp; (try (simp (disch := omega) only [IntWalk.i64_in]; (try go_simp))); (try (split; (next => omega); (try go_simp))); try rfl; done))
        try simp only [Act.put, List.setIfInBounds_toArray, List.set_cons_zero, List.set_cons_succ]
        refine pl_done (by kernel_rfl)  ?_
        rintro w2 ⟨-, hc2⟩
        rcases hb with _ | _
        · have Hg := Lib.hid (Hgo'.out (of_decide_eq_false Hhb.out.symm))
          go_wp2_with (with_reducible first | refine stop_append ?_ | refine stop_copy ?_ | refine stop_make ?_ | refine stop_lookup ?_ | refine stop_update ?_ | refine stop_slice ?_ | refine stop_range ?_ | refine stop_next ?_ | refine stop_convert ⟨_, rfl⟩ ?_ | refine stop_convertB ⟨_, _, _, rfl⟩ ?_ | refine stop_eqSlice ⟨_, _, rfl⟩ ?_)
          go_roundw
          case rel => exact ⟨k + 1, by omega, by go_num, hc.trans hc2, Hg.out⟩
          case measure => simp [intOf]; omega
        · have Hr := Lib.hid (Hdup'.out (of_decide_eq_true Hhb.out.symm))
          go_wp2_with (with_reducible first | refine stop_append ?_ | refine stop_copy ?_ | refine stop_make ?_ | refine stop_lookup ?_ | refine stop_update ?_ | refine stop_slice ?_ | refine stop_range ?_ | refine stop_next ?_ | refine stop_convert ⟨_, rfl⟩ ?_ | refine stop_convertB ⟨_, _, _, rfl⟩ ?_ | refine stop_eqSlice ⟨_, _, rfl⟩ ?_)
          go_ret
          exact ⟨by rw [Hr.out]; rfl, hc.trans hc2⟩
    · obtain rfl : k = xs.length := by omega
      rw [List.take_length] at Hnod
      go_wp2_with (with_reducible first | refine stop_append ?_ | refine stop_copy ?_ | refine stop_make ?_ | refine stop_lookup ?_ | refine stop_update ?_ | refine stop_slice ?_ | refine stop_range ?_ | refine stop_next ?_ | refine stop_convert ⟨_, rfl⟩ ?_ | refine stop_convertB ⟨_, _, _, rfl⟩ ?_ | refine stop_eqSlice ⟨_, _, rfl⟩ ?_)
      go_ret
      exact ⟨by rw [Hnod.out]; rfl, hc⟩
end Go.Proofs.Ytbjpoamnglfjeaa


/- Walks of the document's chapter 5: Right, Same. -/
set_option linter.unusedVariables false
set_option linter.unusedSimpArgs false
namespace Go.Proofs.Ytbjpoamnglfjeaa
open Go.RowKit Cb

theorem entR_n {n k : Int} {cut : List Int} {tag t p : Int} (h : ¬ (1 ≤ n ∧ n ≤ 1099511627776)) : entR (n, k, cut, tag, t, p) = false := by
  unfold entR wiB
  rw [Bool.and_eq_false_iff]; left
  rw [Bool.and_eq_false_iff, decide_eq_false_iff_not, decide_eq_false_iff_not]
  simp only
  omega
theorem entR_1 {n : Int} {cut : List Int} {tag t p : Int} (h : 1 ≤ n ∧ n ≤ 1099511627776) : entR (n, 1, cut, tag, t, p) = (vright cut && (decide (tag = 0) && (decide (t = 0) && decide (p = 0)))) := by
  unfold entR wiB
  simp only [decide_eq_true h.1, decide_eq_true h.2, Bool.and_self, Bool.true_and, if_true]
theorem entR_2 {n : Int} {cut : List Int} {tag t p : Int} (h : 1 ≤ n ∧ n ≤ 1099511627776) : entR (n, 2, cut, tag, t, p) = decide (cut.length = 0 ∧ (0 ≤ tag ∧ tag ≤ 1073741824) ∧ (1 ≤ t ∧ t ≤ 64) ∧ (0 ≤ p ∧ p ≤ 1099511627776)) := by
  unfold entR wiB
  simp only [decide_eq_true h.1, decide_eq_true h.2, Bool.and_self, Bool.true_and, if_true, if_neg (show ¬ (2 : Int) = 1 by omega), Bool.decide_and]
theorem entR_o {n k : Int} {cut : List Int} {tag t p : Int} (h1 : k ≠ 1) (h2 : k ≠ 2) : entR (n, k, cut, tag, t, p) = false := by
  unfold entR
  simp only [if_neg h1, if_neg h2, Bool.and_false]
set_option maxRecDepth 100000 in
set_option maxHeartbeats 4000000 in
theorem dright_any (F : Nat → Prop) (e : Ent) (v : Value) (w : World) (hs : Sl F w v e.2.2.1) (hl : e.2.2.1.length * 8 ≤ 140737488355328) :
    Calls Try.prog 112 #[entV e v] w fun x w' => x = .returned (.bool (entR e)) ∧ Chg No w w' := by
  obtain ⟨n, k, cut, tag, t, p⟩ := e
  simp only at hs hl
  have Hv := Lib.hid (fun W hW => rright_any F _ _ W (hs.keepNo hW) hl)
  obtain ⟨A, c, rfl⟩ := hs.slice
  clear hs
  have o1 := alloc_obj w (.cells #[.int .i64 n, .int .i64 k, .slice A cut.length c, .int .i64 tag, .int .i64 t, .int .i64 p] 52)
  have hc0 := (Chg.refl No w).alloc (.cells #[.int .i64 n, .int .i64 k, .slice A cut.length c, .int .i64 tag, .int .i64 t, .int .i64 p] 52)
  have a0 := cell_obj (i := 0) o1 rfl
  have a1 := cell_obj (i := 1) o1 rfl
  have a2 := cell_obj (i := 2) o1 rfl
  have a3 := cell_obj (i := 3) o1 rfl
  have a4 := cell_obj (i := 4) o1 rfl
  have a5 := cell_obj (i := 5) o1 rfl
  unfold entV
  simp only
  by_cases h1 : n < 1
  · have Hr := Lib.hid (entR_n (k := k) (cut := cut) (tag := tag) (t := t) (p := p) (show ¬ (1 ≤ n ∧ n ≤ 1099511627776) by omega))
    go_enter Try.func112, Try.ntmps112
    go_wp2_with (with_reducible first | refine stop_append ?_ | refine stop_copy ?_ | refine stop_make ?_ | refine stop_lookup ?_ | refine stop_update ?_ | refine stop_slice ?_ | refine stop_range ?_ | refine stop_next ?_ | refine stop_convert ⟨_, rfl⟩ ?_ | refine stop_convertB ⟨_, _, _, rfl⟩ ?_ | refine stop_eqSlice ⟨_, _, rfl⟩ ?_)
    go_ret
    exact ⟨by rw [Hr.out]; rfl, hc0⟩
  by_cases h2 : 1099511627776 < n
  · have Hr := Lib.hid (entR_n (k := k) (cut := cut) (tag := tag) (t := t) (p := p) (show ¬ (1 ≤ n ∧ n ≤ 1099511627776) by omega))
    go_enter Try.func112, Try.ntmps112
    go_wp2_with (with_reducible first | refine stop_append ?_ | refine stop_copy ?_ | refine stop_make ?_ | refine stop_lookup ?_ | refine stop_update ?_ | refine stop_slice ?_ | refine stop_range ?_ | refine stop_next ?_ | refine stop_convert ⟨_, rfl⟩ ?_ | refine stop_convertB ⟨_, _, _, rfl⟩ ?_ | refine stop_eqSlice ⟨_, _, rfl⟩ ?_)
    go_ret
    exact ⟨by rw [Hr.out]; rfl, hc0⟩
  by_cases hk1 : k = 1
  · subst hk1
    have Hr := Lib.hid (entR_1 (cut := cut) (tag := tag) (t := t) (p := p) (show 1 ≤ n ∧ n ≤ 1099511627776 by omega))
    generalize entR (n, 1, cut, tag, t, p) = R at *
    generalize vright cut = b at *
    go_enter Try.func112, Try.ntmps112
    go_wp2_with (with_reducible first | refine stop_append ?_ | refine stop_copy ?_ | refine stop_make ?_ | refine stop_lookup ?_ | refine stop_update ?_ | refine stop_slice ?_ | refine stop_range ?_ | refine stop_next ?_ | refine stop_convert ⟨_, rfl⟩ ?_ | refine stop_convertB ⟨_, _, _, rfl⟩ ?_ | refine stop_eqSlice ⟨_, _, rfl⟩ ?_)
    generalize w.alloc (.cells #[.int .i64 n, .int .i64 1, .slice A cut.length c, .int .i64 tag, .int .i64 t, .int .i64 p] 52) = w0 at *
    refine (Hv.out _ hc0).mono ?_
    rintro e w1 ⟨rfl, hc1⟩
    have hcw := hc0.trans hc1
    replace a3 := hc1.cell a3 (not_no _)
    replace a4 := hc1.cell a4 (not_no _)
    replace a5 := hc1.cell a5 (not_no _)
    clear a0 a1 a2 o1
    rcases b with _ | _
    · go_wp2_with (with_reducible first | refine stop_append ?_ | refine stop_copy ?_ | refine stop_make ?_ | refine stop_lookup ?_ | refine stop_update ?_ | refine stop_slice ?_ | refine stop_range ?_ | refine stop_next ?_ | refine stop_convert ⟨_, rfl⟩ ?_ | refine stop_convertB ⟨_, _, _, rfl⟩ ?_ | refine stop_eqSlice ⟨_, _, rfl⟩ ?_)
      go_ret
      exact ⟨by rw [Hr.out]; rfl, hcw⟩
    by_cases t1 : tag = 0
    · subst t1
      by_cases t2 : t = 0
      · subst t2
        by_cases t3 : p = 0
        · subst t3
          go_wp2_with (with_reducible first | refine stop_append ?_ | refine stop_copy ?_ | refine stop_make ?_ | refine stop_lookup ?_ | refine stop_update ?_ | refine stop_slice ?_ | refine stop_range ?_ | refine stop_next ?_ | refine stop_convert ⟨_, rfl⟩ ?_ | refine stop_convertB ⟨_, _, _, rfl⟩ ?_ | refine stop_eqSlice ⟨_, _, rfl⟩ ?_)
          go_ret
          exact ⟨by rw [Hr.out]; rfl, hcw⟩
        · have e3 : (p == 0) = false := beq_false_of_ne t3
          have e4 := Lib.hid (decide_eq_false t3)
          clear t3
          go_wp2_with (with_reducible first | refine stop_append ?_ | refine stop_copy ?_ | refine stop_make ?_ | refine stop_lookup ?_ | refine stop_update ?_ | refine stop_slice ?_ | refine stop_range ?_ | refine stop_next ?_ | refine stop_convert ⟨_, rfl⟩ ?_ | refine stop_convertB ⟨_, _, _, rfl⟩ ?_ | refine stop_eqSlice ⟨_, _, rfl⟩ ?_)
          go_ret
          exact ⟨by rw [Hr.out, e4.out]; rfl, hcw⟩
      · have e3 : (t == 0) = false := beq_false_of_ne t2
        have e4 := Lib.hid (decide_eq_false t2)
        clear t2
        go_wp2_with (with_reducible first | refine stop_append ?_ | refine stop_copy ?_ | refine stop_make ?_ | refine stop_lookup ?_ | refine stop_update ?_ | refine stop_slice ?_ | refine stop_range ?_ | refine stop_next ?_ | refine stop_convert ⟨_, rfl⟩ ?_ | refine stop_convertB ⟨_, _, _, rfl⟩ ?_ | refine stop_eqSlice ⟨_, _, rfl⟩ ?_)
        go_ret
        exact ⟨by rw [Hr.out, e4.out]; rfl, hcw⟩
    · have e3 : (tag == 0) = false := beq_false_of_ne t1
      have e4 := Lib.hid (decide_eq_false t1)
      clear t1
      go_wp2_with (with_reducible first | refine stop_append ?_ | refine stop_copy ?_ | refine stop_make ?_ | refine stop_lookup ?_ | refine stop_update ?_ | refine stop_slice ?_ | refine stop_range ?_ | refine stop_next ?_ | refine stop_convert ⟨_, rfl⟩ ?_ | refine stop_convertB ⟨_, _, _, rfl⟩ ?_ | refine stop_eqSlice ⟨_, _, rfl⟩ ?_)
      go_ret
      exact ⟨by rw [Hr.out, e4.out]; rfl, hcw⟩
  have k1 : (k == 1) = false := beq_false_of_ne hk1
  by_cases hk2 : k = 2
  case neg =>
    have Hr := Lib.hid (entR_o (n := n) (cut := cut) (tag := tag) (t := t) (p := p) hk1 hk2)
    have k2 : (k == 2) = false := beq_false_of_ne hk2
    have k3 : (k != 2) = true := by simpa using hk2
    clear hk1 hk2
    go_enter Try.func112, Try.ntmps112
    go_wp2_with (with_reducible first | refine stop_append ?_ | refine stop_copy ?_ | refine stop_make ?_ | refine stop_lookup ?_ | refine stop_update ?_ | refine stop_slice ?_ | refine stop_range ?_ | refine stop_next ?_ | refine stop_convert ⟨_, rfl⟩ ?_ | refine stop_convertB ⟨_, _, _, rfl⟩ ?_ | refine stop_eqSlice ⟨_, _, rfl⟩ ?_)
    go_ret
    exact ⟨by rw [Hr.out]; rfl, hc0⟩
  subst hk2
  have Hr := Lib.hid (entR_2 (cut := cut) (tag := tag) (t := t) (p := p) (show 1 ≤ n ∧ n ≤ 1099511627776 by omega))
  clear k1 hk1
  generalize entR (n, 2, cut, tag, t, p) = R at *
  by_cases c1 : cut = []
  case neg =>
    have hr : R = false := by rw [Hr.out]; exact decide_eq_false (fun h => c1 (List.eq_nil_of_length_eq_zero h.1))
    have c2 : 0 < cut.length := List.length_pos_iff.2 c1
    have HR := Lib.hid hr
    clear c1 hr Hr Hv
    generalize cut.length = cl at *
    have c3 : ¬ cl = 0 := by omega
    have c4 : 0 < (cl : Int) := by omega
    go_enter Try.func112, Try.ntmps112
    go_wp2_with (with_reducible first | refine stop_append ?_ | refine stop_copy ?_ | refine stop_make ?_ | refine stop_lookup ?_ | refine stop_update ?_ | refine stop_slice ?_ | refine stop_range ?_ | refine stop_next ?_ | refine stop_convert ⟨_, rfl⟩ ?_ | refine stop_convertB ⟨_, _, _, rfl⟩ ?_ | refine stop_eqSlice ⟨_, _, rfl⟩ ?_)
    go_ret
    exact ⟨by rw [HR.out]; rfl, hc0⟩
  subst c1
  clear Hv hl
  simp only [List.length_nil] at *
  have hcase : (tag < 0 ∧ R = false) ∨ (¬ tag < 0 ∧ 1073741824 < tag ∧ R = false) ∨ (¬ tag < 0 ∧ ¬ 1073741824 < tag ∧ ¬ 1 ≤ t ∧ R = false) ∨
      (¬ tag < 0 ∧ ¬ 1073741824 < tag ∧ 1 ≤ t ∧ ¬ t ≤ 64 ∧ R = false) ∨ (¬ tag < 0 ∧ ¬ 1073741824 < tag ∧ 1 ≤ t ∧ t ≤ 64 ∧ ¬ 0 ≤ p ∧ R = false) ∨
      (¬ tag < 0 ∧ ¬ 1073741824 < tag ∧ 1 ≤ t ∧ t ≤ 64 ∧ 0 ≤ p ∧ ¬ p ≤ 1099511627776 ∧ R = false) ∨ (¬ tag < 0 ∧ ¬ 1073741824 < tag ∧ 1 ≤ t ∧ t ≤ 64 ∧ 0 ≤ p ∧ p ≤ 1099511627776 ∧ R = true) := by
    have no : ¬ ((0 ≤ tag ∧ tag ≤ 1073741824) ∧ (1 ≤ t ∧ t ≤ 64) ∧ (0 ≤ p ∧ p ≤ 1099511627776)) → R = false := fun h => by rw [Hr.out]; exact decide_eq_false (fun h' => h h'.2)
    by_cases c2 : tag < 0
    · exact .inl ⟨c2, no (fun h => by omega)⟩
    by_cases c3 : 1073741824 < tag
    · exact .inr (.inl ⟨c2, c3, no (fun h => by omega)⟩)
    by_cases c4 : 1 ≤ t
    case neg => exact .inr (.inr (.inl ⟨c2, c3, c4, no (fun h => by omega)⟩))
    by_cases c5 : t ≤ 64
    case neg => exact .inr (.inr (.inr (.inl ⟨c2, c3, c4, c5, no (fun h => by omega)⟩)))
    by_cases c6 : 0 ≤ p
    case neg => exact .inr (.inr (.inr (.inr (.inl ⟨c2, c3, c4, c5, c6, no (fun h => by omega)⟩))))
    by_cases c7 : p ≤ 1099511627776
    case neg => exact .inr (.inr (.inr (.inr (.inr (.inl ⟨c2, c3, c4, c5, c6, c7, no (fun h => by omega)⟩)))))
    exact .inr (.inr (.inr (.inr (.inr (.inr ⟨c2, c3, c4, c5, c6, c7, by rw [Hr.out]; exact decide_eq_true ⟨by first | rfl | trivial, ⟨by omega, by omega⟩, ⟨c4, c5⟩, ⟨c6, c7⟩⟩⟩)))))
  clear Hr
  rcases hcase with ⟨c2, hr⟩ | ⟨c2, c3, hr⟩ | ⟨c2, c3, c4, hr⟩ | ⟨c2, c3, c4, c5, hr⟩ | ⟨c2, c3, c4, c5, c6, hr⟩ | ⟨c2, c3, c4, c5, c6, c7, hr⟩ | ⟨c2, c3, c4, c5, c6, c7, hr⟩
  all_goals
    have Hr := Lib.hid hr
    clear hr
    go_enter Try.func112, Try.ntmps112
    go_wp2_with (with_reducible first | refine stop_append ?_ | refine stop_copy ?_ | refine stop_make ?_ | refine stop_lookup ?_ | refine stop_update ?_ | refine stop_slice ?_ | refine stop_range ?_ | refine stop_next ?_ | refine stop_convert ⟨_, rfl⟩ ?_ | refine stop_convertB ⟨_, _, _, rfl⟩ ?_ | refine stop_eqSlice ⟨_, _, rfl⟩ ?_)
    go_ret
    exact ⟨by rw [Hr.out]; rfl, hc0⟩
end Go.Proofs.Ytbjpoamnglfjeaa


/- Walks of package entry for a register: Last. -/
set_option linter.unusedVariables false
set_option linter.unusedSimpArgs false
namespace Go.Proofs.Ytbjpoamnglfjeaa
open Go.RowKit Cb

def lastF (l : List Ent) (n : Nat) : List Int := (l.take (chainF l 0 []).1).foldl lastE (List.replicate n 0)
theorem chain_le (l : List Ent) : ∀ i last, (chainF l i last).1 ≤ i + l.length := by
  induction l with
  | nil => intro i last; simp [chainF]
  | cons e r ih =>
    intro i last
    simp only [chainF]
    split
    · have := ih (i + 1) (lastE last e); simp only [List.length_cons]; omega
    · simp
set_option maxRecDepth 100000 in
set_option maxHeartbeats 2000000 in
theorem last_any (v : Value) (l : List Ent) (n : Nat) (w : World) (h : Sl No w v l) (hl : l.length ≤ 2199023255488) (hcb : ∀ e ∈ l, e.2.2.1.length ≤ 1000000) (h1 : 1 ≤ n) (h8 : n ≤ 8) :
    Calls Try.prog 99 #[v, .int .i64 n] w fun e w' => ∃ v', e = .returned v' ∧ Chg No w w' ∧ Sl (Lt w.heap.size) w' v' (lastF l n) := by
  have Hch := Lib.hid (fun W (hW : Chg No w W) => chain_any v l W (h.keepNo hW) hl (fun e he => by have := hcb e he; omega))
  have Hz := Lib.hid (vzero_yes n w h1 h8)
  obtain ⟨A, c, rfl⟩ := h.slice
  have H := Lib.hid (fun W (hW : Chg No w W) => (Sl.up h (Nat.le_refl _)).keepNo hW)
  have hm : (chainF l 0 []).1 ≤ l.length := by have := chain_le l 0 []; omega
  have hlf : lastF l n = (l.take (chainF l 0 []).1).foldl lastE (List.replicate n 0) := rfl
  generalize lastF l n = R at *
  generalize (chainF l 0 []).1 = m at *
  have hb2 : ∀ e ∈ l.take m, e.2.2.1.length ≤ 1000000 := fun e he => hcb e (List.mem_of_mem_take he)
  have hlm : (l.take m).length = m := by rw [List.length_take]; omega
  have HL := Lib.hid (show ∀ k (hk : k < (l.take m).length), ((l.take m).take (k + 1)).foldl lastE (List.replicate n 0) = lastE (((l.take m).take k).foldl lastE (List.replicate n 0)) (l.take m)[k] from fun k hk => by
    rw [List.take_succ_eq_append_getElem hk, List.foldl_append]; rfl)
  have Hlf := Lib.hid hlf
  have Hb2 := Lib.hid hb2
  clear h hcb hlf hb2
  go_enter Try.func99, Try.ntmps99
  go_wp2_with (with_reducible first | refine stop_append ?_ | refine stop_copy ?_ | refine stop_make ?_ | refine stop_lookup ?_ | refine stop_update ?_ | refine stop_slice ?_ | refine stop_range ?_ | refine stop_next ?_ | refine stop_convert ⟨_, rfl⟩ ?_ | refine stop_convertB ⟨_, _, _, rfl⟩ ?_ | refine stop_eqSlice ⟨_, _, rfl⟩ ?_)
  refine Hz.out.mono ?_
  rintro e w1 ⟨az, cz, rfl, hc1, hsz⟩
  have Hsz := Lib.hid (hsz.weak (G := No) (fun _ _ f => f.elim))
  clear hsz Hz
  go_wp2_with (with_reducible first | refine stop_append ?_ | refine stop_copy ?_ | refine stop_make ?_ | refine stop_lookup ?_ | refine stop_update ?_ | refine stop_slice ?_ | refine stop_range ?_ | refine stop_next ?_ | refine stop_convert ⟨_, rfl⟩ ?_ | refine stop_convertB ⟨_, _, _, rfl⟩ ?_ | refine stop_eqSlice ⟨_, _, rfl⟩ ?_)
  refine (Hch.out _ hc1).mono ?_
  rintro e w2 ⟨rfl, hc2⟩
  have hcw2 := hc1.trans hc2
  clear Hch
  go_wp2_with (with_reducible first | refine stop_append ?_ | refine stop_copy ?_ | refine stop_make ?_ | refine stop_lookup ?_ | refine stop_update ?_ | refine stop_slice ?_ | refine stop_range ?_ | refine stop_next ?_ | refine stop_convert ⟨_, rfl⟩ ?_ | refine stop_convertB ⟨_, _, _, rfl⟩ ?_ | refine stop_eqSlice ⟨_, _, rfl⟩ ?_)
  refine step_slice (α := Ent) (l := 0) (h := m) Try.underlying28 info_ent (H.out _ hcw2) rfl Bound.none (Bound.some rfl) (by omega) hm ?_
  intro A' c' hsl
  rw [List.drop_zero] at hsl
  rw [Nat.sub_zero] at *
  generalize l.take m = ls at *
  have Hsl := Lib.hid hsl
  clear hsl
  go_wp2_with (with_reducible first | refine stop_append ?_ | refine stop_copy ?_ | refine stop_make ?_ | refine stop_lookup ?_ | refine stop_update ?_ | refine stop_slice ?_ | refine stop_range ?_ | refine stop_next ?_ | refine stop_convert ⟨_, rfl⟩ ?_ | refine stop_convertB ⟨_, _, _, rfl⟩ ?_ | refine stop_eqSlice ⟨_, _, rfl⟩ ?_)
  go_loopw [5, 15] (fun v5 v15 wr => ∃ (k : Nat) (last : List Int), k ≤ m ∧ v15 = .int .i64 k ∧ Chg No w2 wr ∧ Sl No wr v5 last ∧ last.length ≤ 1000000 ∧ last = (ls.take k).foldl lastE (List.replicate n 0)) (fun _ v15 _ => m - (intOf v15).toNat)
  case atStart => exact ⟨0, List.replicate n 0, by omega, rfl, Chg.refl _ _, Hsz.out.keepNo hc2, by simp; omega, rfl⟩
  case round =>
    obtain ⟨k, last, hk, rfl, hc, hsv, hll, hlast⟩ := hrel
    have Hlast := Lib.hid hlast
    have Hsv := Lib.hid hsv
    obtain ⟨A5, c5, rfl⟩ := hsv.slice
    clear hlast hsv
    by_cases hlt : k < m
    · have hlt2 : k < ls.length := by omega
      have hgs : Sl (Ge w.heap.size) wr (.slice A' ls.length c') ls := by rw [hlm]; exact Hsl.out.keepNo hc
      obtain ⟨b, o, vx, rfl, _, hbl, hux, a0, a1, a2, a3, a4, a5⟩ := ent_get hgs k hlt2
      have hbx := Hb2.out _ (List.getElem_mem hlt2)
      have Hst := Lib.hid (HL.out k hlt2)
      clear hgs
      have hlsd : lastE last ls[k] = if ls[k].2.1 = 1 then ls[k].2.2.1 else last := rfl
      have Hz := Lib.hid (show lastE last ls[k] = (ls.take (k + 1)).foldl lastE (List.replicate n 0) by rw [Hst.out, ← Hlast.out])
      clear Hst
      generalize lastE last ls[k] = las at *
      generalize ls[k] = x at *
      obtain ⟨n', kd, cut, tag, t, p⟩ := x
      simp only at *
      obtain ⟨Ax, cx, rfl⟩ := hux.slice
      have Hux := Lib.hid hux
      have Hls := Lib.hid hlsd
      clear hux hlsd
      have o1 := alloc_obj wr (.cells #[.int .i64 n', .int .i64 kd, .slice Ax cut.length cx, .int .i64 tag, .int .i64 t, .int .i64 p] 58)
      have hcA := (Chg.refl No wr).alloc (.cells #[.int .i64 n', .int .i64 kd, .slice Ax cut.length cx, .int .i64 tag, .int .i64 t, .int .i64 p] 58)
      have g1 := cell_obj (i := 1) o1 rfl
      have g2 := cell_obj (i := 2) o1 rfl
      have hcr := hc.trans hcA
      clear o1
      by_cases hk1 : kd = 1
      · subst hk1
        have Hz2 := Lib.hid (Hls.out.symm.trans Hz.out)
        simp only [if_true] at Hz2
        clear Hz Hls
        go_wp2_with (with_reducible first | refine stop_append ?_ | refine stop_copy ?_ | refine stop_make ?_ | refine stop_lookup ?_ | refine stop_update ?_ | refine stop_slice ?_ | refine stop_range ?_ | refine stop_next ?_ | refine stop_convert ⟨_, rfl⟩ ?_ | refine stop_convertB ⟨_, _, _, rfl⟩ ?_ | refine stop_eqSlice ⟨_, _, rfl⟩ ?_)
        go_roundw
        case rel => exact ⟨k + 1, cut, by omega, by go_num, hcr, (Hux.out.weak (G := No) (fun _ _ f => f.elim)).keepNo hcA, hbx, Hz2.out⟩
        case measure => simp [intOf]; omega
      · have Hz2 := Lib.hid (Hls.out.symm.trans Hz.out)
        rw [if_neg hk1] at Hz2
        have hk2 : (kd == 1) = false := by simpa using hk1
        have hk3 : (kd != 1) = true := by simpa using hk1
        clear Hz Hls hk1
        go_wp2_with (with_reducible first | refine stop_append ?_ | refine stop_copy ?_ | refine stop_make ?_ | refine stop_lookup ?_ | refine stop_update ?_ | refine stop_slice ?_ | refine stop_range ?_ | refine stop_next ?_ | refine stop_convert ⟨_, rfl⟩ ?_ | refine stop_convertB ⟨_, _, _, rfl⟩ ?_ | refine stop_eqSlice ⟨_, _, rfl⟩ ?_)
        go_roundw
        case rel => exact ⟨k + 1, last, by omega, by go_num, hcr, Hsv.out.keepNo hcA, hll, Hz2.out⟩
        case measure => simp [intOf]; omega
    · obtain rfl : k = m := by omega
      have Hcl := Lib.hid (vclone_any _ _ last wr Hsv.out hll)
      have hfin : last = R := by rw [Hlast.out, Hlf.out, ← hlm, List.take_length]
      have Hfin := Lib.hid hfin
      have hcw := hcw2.trans hc
      have hsz9 := hcw.size
      clear hfin
      go_wp2_with (with_reducible first | refine stop_append ?_ | refine stop_copy ?_ | refine stop_make ?_ | refine stop_lookup ?_ | refine stop_update ?_ | refine stop_slice ?_ | refine stop_range ?_ | refine stop_next ?_ | refine stop_convert ⟨_, rfl⟩ ?_ | refine stop_convertB ⟨_, _, _, rfl⟩ ?_ | refine stop_eqSlice ⟨_, _, rfl⟩ ?_)
      refine Hcl.out.mono ?_
      rintro e w9 ⟨vn, rfl, hc9, hs9⟩
      obtain ⟨A9, c9, rfl⟩ := hs9.slice
      have Hs9 := Lib.hid hs9
      clear hs9
      go_wp2_with (with_reducible first | refine stop_append ?_ | refine stop_copy ?_ | refine stop_make ?_ | refine stop_lookup ?_ | refine stop_update ?_ | refine stop_slice ?_ | refine stop_range ?_ | refine stop_next ?_ | refine stop_convert ⟨_, rfl⟩ ?_ | refine stop_convertB ⟨_, _, _, rfl⟩ ?_ | refine stop_eqSlice ⟨_, _, rfl⟩ ?_)
      go_ret
      exact ⟨_, rfl, hcw.trans hc9, Hfin.out ▸ Hs9.out.weak (fun i _ hi => by simp only [Lt] at *; omega)⟩
end Go.Proofs.Ytbjpoamnglfjeaa


/- Walks of package register: a row of the caller's own. -/
set_option linter.unusedVariables false
set_option linter.unusedSimpArgs false
namespace Go.Proofs.Ytbjpoamnglfjeaa
open Go.RowKit Cb

theorem set3 {w : World} {q : Nat} {a b c : Value} {T : TypeId} {fz : Nat × Nat} (h : w.heap[q]? = some (.cells #[a, b, c] T fz)) (x y z : Value) :
    (((w.setCell ⟨q, 0, none⟩ x).setCell ⟨q, 1, none⟩ y).setCell ⟨q, 2, none⟩ z).heap[q]? = some (.cells #[x, y, z] T fz) ∧ Chg (At q) w (((w.setCell ⟨q, 0, none⟩ x).setCell ⟨q, 1, none⟩ y).setCell ⟨q, 2, none⟩ z) :=
  ⟨obj_set (obj_set (obj_set h rfl) rfl) rfl, ((chg_set x).trans (chg_set y)).trans (chg_set z)⟩
theorem set5 {w : World} {q : Nat} {a b c d e : Value} {T : TypeId} {fz : Nat × Nat} (h : w.heap[q]? = some (.cells #[a, b, c, d, e] T fz)) (x y z t u : Value) :
    (((((w.setCell ⟨q, 0, none⟩ x).setCell ⟨q, 1, none⟩ y).setCell ⟨q, 2, none⟩ z).setCell ⟨q, 3, none⟩ t).setCell ⟨q, 4, none⟩ u).heap[q]? = some (.cells #[x, y, z, t, u] T fz) ∧ Chg (At q) w (((((w.setCell ⟨q, 0, none⟩ x).setCell ⟨q, 1, none⟩ y).setCell ⟨q, 2, none⟩ z).setCell ⟨q, 3, none⟩ t).setCell ⟨q, 4, none⟩ u) :=
  ⟨obj_set (obj_set (obj_set (obj_set (obj_set h rfl) rfl) rfl) rfl) rfl, ((((chg_set x).trans (chg_set y)).trans (chg_set z)).trans (chg_set t)).trans (chg_set u)⟩
/-- A row's value. -/
def rowV (t : Int) (vq vs vt : Value) (o : Bool) : Value := .agg #[.int .i64 t, vq, vs, vt, .bool o]
theorem vinfo_ints : Info Try.prog 46 (.slice none 0 0) 1 24 := by unfold Info; kernel_rfl
set_option maxRecDepth 100000 in
set_option maxHeartbeats 4000000 in
theorem own_any (t : Int) (vq vs vt : Value) (o : Bool) (q : List Int) (s : List (List Int)) (l : List Ent) (w : World) (hq : Sl No w vq q) (hs : Sl No w vs s) (ht : Sl No w vt l)
    (hlq : q.length ≤ 1000000) (hls : s.length ≤ 1000000) (hbs : ∀ x ∈ s, x.length ≤ 1000000) (hlt : l.length ≤ 2199023255488) (hbt : ∀ e ∈ l, e.2.2.1.length ≤ 1000000) :
    Calls Try.prog 67 #[rowV t vq vs vt o] w fun e w' => ∃ vq' vs' vt', e = .returned (rowV t vq' vs' vt' o) ∧ Chg No w w' ∧ Sl (Lt w.heap.size) w' vq' q ∧ Sl (Lt w.heap.size) w' vs' s ∧ Sl (Lt w.heap.size) w' vt' l := by
  have Hq := Lib.hid (fun W (hW : Chg No w W) => vclone_any _ _ q W (hq.keepNo hW) hlq)
  have Ht := Lib.hid (fun W (hW : Chg No w W) => regents_any _ l W (ht.keepNo hW) hlt hbt)
  have Hs := Lib.hid (fun W (hW : Chg No w W) => (Sl.up hs (Nat.le_refl _)).keepNo hW)
  have Hbs := Lib.hid hbs
  obtain ⟨Aq, cq, rfl⟩ := hq.slice
  obtain ⟨As, cs, rfl⟩ := hs.slice
  obtain ⟨At0, ct, rfl⟩ := ht.slice
  clear hq hs ht hbs hbt
  unfold rowV
  go_enter Try.func67, Try.ntmps67
  have o1 := ((Chg.refl No (w.alloc (.cells #[.int .i64 t, .slice Aq q.length cq, .slice As s.length cs, .slice At0 l.length ct, .bool o] 88))).alloc (.cells #[.int .i64 0, .slice none 0 0, .slice none 0 0, .slice none 0 0, .bool false] 88)).obj (alloc_obj w (.cells #[.int .i64 t, .slice Aq q.length cq, .slice As s.length cs, .slice At0 l.length ct, .bool o] 88)) (not_no _)
  have o2 := alloc_obj (w.alloc (.cells #[.int .i64 t, .slice Aq q.length cq, .slice As s.length cs, .slice At0 l.length ct, .bool o] 88)) (.cells #[.int .i64 0, .slice none 0 0, .slice none 0 0, .slice none 0 0, .bool false] 88)
  have hc0 := ((Chg.refl No w).alloc (.cells #[.int .i64 t, .slice Aq q.length cq, .slice As s.length cs, .slice At0 l.length ct, .bool o] 88)).alloc (.cells #[.int .i64 0, .slice none 0 0, .slice none 0 0, .slice none 0 0, .bool false] 88)
  have hz : (w.alloc (.cells #[.int .i64 t, .slice Aq q.length cq, .slice As s.length cs, .slice At0 l.length ct, .bool o] 88)).heap.size = w.heap.size + 1 := by simp
  rw [hz] at o2
  go_wp2_with (with_reducible first | refine stop_append ?_ | refine stop_copy ?_ | refine stop_make ?_ | refine stop_lookup ?_ | refine stop_update ?_ | refine stop_slice ?_ | refine stop_range ?_ | refine stop_next ?_ | refine stop_convert ⟨_, rfl⟩ ?_ | refine stop_convertB ⟨_, _, _, rfl⟩ ?_ | refine stop_eqSlice ⟨_, _, rfl⟩ ?_)
  generalize (w.alloc (.cells #[.int .i64 t, .slice Aq q.length cq, .slice As s.length cs, .slice At0 l.length ct, .bool o] 88)).alloc (.cells #[.int .i64 0, .slice none 0 0, .slice none 0 0, .slice none 0 0, .bool false] 88) = w0 at *
  obtain ⟨q1, hq1⟩ : ∃ p, p = w.heap.size := ⟨_, rfl⟩
  obtain ⟨q2, hq2⟩ : ∃ p, p = w.heap.size + 1 := ⟨_, rfl⟩
  rw [← hq2] at o2 ⊢
  rw [← hq1] at o1 ⊢
  have Hq1 := Lib.hid hq1; have Hq2 := Lib.hid hq2
  clear hq1 hq2 hz
  have HS := Lib.hid (show ∀ W, Chg No w0 W → (fun W => W.cell? ⟨q1, 0, none⟩ = some (.int .i64 t) ∧ W.cell? ⟨q1, 1, none⟩ = some (.slice Aq q.length cq)) W from fun W hW => ⟨cell_obj (hW.obj o1 (not_no _)) rfl, cell_obj (hW.obj o1 (not_no _)) rfl⟩)
  have cd := (Chg.refl No w0).drew
  refine rt_start (fun W => W.cell? ⟨q1, 0, none⟩ = some (.int .i64 t) ∧ W.cell? ⟨q1, 1, none⟩ = some (.slice Aq q.length cq)) (by kernel_rfl) ?_
  ((refine rt_yes (i := 0) (oi := { dst := some 6, op := .fieldAddr 88 (.tmp 1) 0, type := 0, pos := "register.go:38", after := #[], guard := none }) (v := ?_) rfl (by kernel_rfl) (by kernel_rfl) (by kernel_rfl) (fun _ _ _ h => h) rfl ?_ ?_); rotate_left; focus (intro W hW; (try dsimp only at hW); go_split_ands; go_simp; (try (simp (disch := omega) only [IntWalk.i64_in]; (try go_simp))); (try (split; (next => omega); (try go_simp))); try rfl; done))
  try simp only [Act.put, List.setIfInBounds_toArray, List.set_cons_zero, List.set_cons_succ]
  ((refine rt_yes (i := 1) (oi := { dst := some 7, op := .fieldAddr 68 (.tmp 6) 0, type := 0, pos := "register.go:38", after := #[{ on := 0, ground := .data }], guard := none }) (v := ?_) rfl (by kernel_rfl) (by kernel_rfl) (by kernel_rfl) (fun _ _ _ h => h) rfl ?_ ?_); rotate_left; focus (intro W hW; (try dsimp only at hW); go_split_ands; go_simp; (try (simp (disch := omega) only [IntWalk.i64_in]; (try go_simp))); (try (split; (next => omega); (try go_simp))); try rfl; done))
  try simp only [Act.put, List.setIfInBounds_toArray, List.set_cons_zero, List.set_cons_succ]
  ((refine rt_yes (i := 2) (oi := { dst := some 8, op := .load 3 (.tmp 7), type := 3, pos := "register.go:38", after := #[{ on := 1, ground := .data }], guard := none }) (v := ?_) rfl (by kernel_rfl) (by kernel_rfl) (by kernel_rfl) (fun _ _ _ h => h) rfl ?_ ?_); rotate_left; focus (intro W hW; (try dsimp only at hW); go_split_ands; go_simp; (try (simp (disch := omega) only [IntWalk.i64_in]; (try go_simp))); (try (split; (next => omega); (try go_simp))); try rfl; done))
  try simp only [Act.put, List.setIfInBounds_toArray, List.set_cons_zero, List.set_cons_succ]
  ((refine rt_yes (i := 3) (oi := { dst := some 9, op := .fieldAddr 88 (.tmp 1) 0, type := 0, pos := "register.go:38", after := #[], guard := none }) (v := ?_) rfl (by kernel_rfl) (by kernel_rfl) (by kernel_rfl) (fun _ _ _ h => h) rfl ?_ ?_); rotate_left; focus (intro W hW; (try dsimp only at hW); go_split_ands; go_simp; (try (simp (disch := omega) only [IntWalk.i64_in]; (try go_simp))); (try (split; (next => omega); (try go_simp))); try rfl; done))
  try simp only [Act.put, List.setIfInBounds_toArray, List.set_cons_zero, List.set_cons_succ]
  ((refine rt_yes (i := 4) (oi := { dst := some 10, op := .fieldAddr 68 (.tmp 9) 1, type := 0, pos := "register.go:38", after := #[{ on := 3, ground := .data }], guard := none }) (v := ?_) rfl (by kernel_rfl) (by kernel_rfl) (by kernel_rfl) (fun _ _ _ h => h) rfl ?_ ?_); rotate_left; focus (intro W hW; (try dsimp only at hW); go_split_ands; go_simp; (try (simp (disch := omega) only [IntWalk.i64_in]; (try go_simp))); (try (split; (next => omega); (try go_simp))); try rfl; done))
  try simp only [Act.put, List.setIfInBounds_toArray, List.set_cons_zero, List.set_cons_succ]
  ((refine rt_yes (i := 5) (oi := { dst := some 11, op := .load 46 (.tmp 10), type := 46, pos := "register.go:38", after := #[{ on := 4, ground := .data }], guard := none }) (v := ?_) rfl (by kernel_rfl) (by kernel_rfl) (by kernel_rfl) (fun _ _ _ h => h) rfl ?_ ?_); rotate_left; focus (intro W hW; (try dsimp only at hW); go_split_ands; go_simp; (try (simp (disch := omega) only [IntWalk.i64_in]; (try go_simp))); (try (split; (next => omega); (try go_simp))); try rfl; done))
  try simp only [Act.put, List.setIfInBounds_toArray, List.set_cons_zero, List.set_cons_succ]
  refine rt_two (i := 6) (j := 8) (oi := { dst := some 12, op := .call { callee := .value (.func 66), args := #[.tmp 11], argTypes := #[46] }, type := 46, pos := "register.go:38", after := #[{ on := 5, ground := .data }], guard := none }) (oj := { dst := some 3, op := .alloc 68, type := 0, pos := "register.go:38", after := #[], guard := none }) (by kernel_rfl) (HS.out _ cd) rfl rfl rfl rfl (fun K hK => ?_) (fun K hK => ?_)
  rotate_left
  focus
    go_simp
    refine hK _ _ ?_
    clear hK K
    try simp only [Act.put, List.setIfInBounds_toArray, List.set_cons_zero, List.set_cons_succ]
    have o5 := (Chg.refl No (w0.alloc (.cells #[.int .i64 0, .slice none 0 0, .slice none 0 0] 68))).drew.obj (alloc_obj w0 (.cells #[.int .i64 0, .slice none 0 0, .slice none 0 0] 68)) (not_no _)
    have cdA : Chg No w0 (w0.alloc (.cells #[.int .i64 0, .slice none 0 0, .slice none 0 0] 68)).drew := ((Chg.refl No w0).alloc (.cells #[.int .i64 0, .slice none 0 0, .slice none 0 0] 68)).drew
    generalize w0.alloc (.cells #[.int .i64 0, .slice none 0 0, .slice none 0 0] 68) = wB at *
    obtain ⟨q5, hq⟩ : ∃ q, q = w0.heap.size := ⟨_, rfl⟩
    rw [← hq] at o5 ⊢
    have hq5 : w0.heap.size ≤ q5 := by omega
    clear hq
    refine rt_k (fun W => W.cell? ⟨q1, 0, none⟩ = some (.int .i64 t) ∧ W.cell? ⟨q1, 1, none⟩ = some (.slice Aq q.length cq)) (i := 6) (oi := { dst := some 12, op := .call { callee := .value (.func 66), args := #[.tmp 11], argTypes := #[46] }, type := 46, pos := "register.go:38", after := #[{ on := 5, ground := .data }], guard := none }) (by kernel_rfl) (HS.out _ cdA) (fun _ h => h) rfl (by rfl) (fun K hK => ?_)
    go_simp
    refine (Hq.out _ (hc0.trans cdA)).mono ?_
    rintro e w7 ⟨vn, rfl, hc7, hsn⟩
    obtain ⟨An, cn, rfl⟩ := hsn.slice
    have cd7 := cdA.trans hc7
    have hql := lt_of_heap o5
    have hcz := (hc0.trans cdA).size
    replace hsn := hsn.weak (G := Or (Lt w0.heap.size) (At q5)) (fun b _ hb => by
      simp only [Lt]
      rcases hb with hb | hb
      · simp only [Lt] at hb; omega
      · simp only [At] at hb; omega)
    replace o5 := hc7.obj o5 (not_no _)
    clear hc7 cdA hql hcz
    refine hK _ _ ?_
    clear hK K
    try simp only [Act.put, List.setIfInBounds_toArray, List.set_cons_zero, List.set_cons_succ]
    ((refine rt_yes (i := 7) (oi := { dst := some 13, op := .build 68 #[(0, .tmp 8), (1, .tmp 12)], type := 68, pos := "register.go:38", after := #[{ on := 2, ground := .data }, { on := 6, ground := .data }], guard := none }) (v := ?_) rfl (by kernel_rfl) (by kernel_rfl) (by kernel_rfl) (fun _ _ _ h => h) rfl ?_ ?_); rotate_left; focus (intro W hW; (try dsimp only at hW); go_split_ands; go_simp; (try (simp (disch := omega) only [IntWalk.i64_in]; (try go_simp))); (try (split; (next => omega); (try go_simp))); try rfl; done))
    try simp only [Act.put, List.setIfInBounds_toArray, List.set_cons_zero, List.set_cons_succ]
    have z0 := cell_obj (i := 0) o5 rfl
    have z1 := cell_obj (i := 1) o5 rfl
    have z2 := cell_obj (i := 2) o5 rfl
    have f0 := free_obj (i := 0) o5
    have f1 := free_obj (i := 1) o5
    have f2 := free_obj (i := 2) o5
    refine rt_k (fun W => W.cell? ⟨q1, 0, none⟩ = some (.int .i64 t) ∧ W.cell? ⟨q1, 1, none⟩ = some (.slice Aq q.length cq)) (i := 9) (oi := { dst := none, op := .store 68 (.tmp 3) (.tmp 13), type := 0, pos := "register.go:38", after := #[{ on := 8, ground := .data }, { on := 7, ground := .data }, { on := 6, ground := .chain }, { on := 0, ground := .phase }, { on := 1, ground := .phase }, { on := 2, ground := .phase }, { on := 3, ground := .phase }, { on := 4, ground := .phase }, { on := 5, ground := .phase }, { on := 6, ground := .phase }, { on := 7, ground := .phase }, { on := 8, ground := .phase }], guard := none }) (by kernel_rfl) (HS.out _ cd7) (fun _ h => h) rfl (by rfl) (fun K hK => ?_)
    go_simp
    refine hK _ _ ?_
    clear hK K
    try simp only [Act.put, List.setIfInBounds_toArray, List.set_cons_zero, List.set_cons_succ]
    refine rt_done (by kernel_rfl)  ?_
    obtain ⟨p5, hcs⟩ := set3 o5 (.int .i64 t) (.slice An q.length cn) (.slice none 0 0)
    have hsu := (hsn.keep (hcs.weak (fun i _ hi => .inr hi)))
    have hcu : Chg No w0 (((w7.setCell ⟨q5, 0, none⟩ (.int .i64 t)).setCell ⟨q5, 1, none⟩ (.slice An q.length cn)).setCell ⟨q5, 2, none⟩ (.slice none 0 0)) := cd7.old hcs (fun i h => by simp only [At] at h; omega)
    clear z0 z1 z2 f0 f1 f2 o5 cd7 hcs hsn
    generalize (((w7.setCell ⟨q5, 0, none⟩ (.int .i64 t)).setCell ⟨q5, 1, none⟩ (.slice An q.length cn)).setCell ⟨q5, 2, none⟩ (.slice none 0 0)) = u at p5 hcu hsu ⊢
  rotate_left
  focus
    go_simp
    refine (Hq.out _ (hc0.trans cd)).mono ?_
    rintro e w6 ⟨vn, rfl, hc6, hsn⟩
    obtain ⟨An, cn, rfl⟩ := hsn.slice
    have cd6 := cd.trans hc6
    have hcz := (hc0.trans cd).size
    have hdw : w0.drew.heap.size = w0.heap.size := rfl
    replace hsn := (hsn.weak (G := Or (Lt w0.heap.size) (At w6.heap.size)) (fun b hb' hb => by
      simp only [Lt]
      rcases hb with hb | hb
      · simp only [Lt] at hb; omega
      · simp only [At] at hb; omega)).keepNo ((Chg.refl No w6).alloc (.cells #[.int .i64 0, .slice none 0 0, .slice none 0 0] 68))
    clear hc6 hcz hdw
    refine hK _ _ ?_
    clear hK K
    try simp only [Act.put, List.setIfInBounds_toArray, List.set_cons_zero, List.set_cons_succ]
    ((refine rt_yes (i := 7) (oi := { dst := some 13, op := .build 68 #[(0, .tmp 8), (1, .tmp 12)], type := 68, pos := "register.go:38", after := #[{ on := 2, ground := .data }, { on := 6, ground := .data }], guard := none }) (v := ?_) rfl (by kernel_rfl) (by kernel_rfl) (by kernel_rfl) (fun _ _ _ h => h) rfl ?_ ?_); rotate_left; focus (intro W hW; (try dsimp only at hW); go_split_ands; go_simp; (try (simp (disch := omega) only [IntWalk.i64_in]; (try go_simp))); (try (split; (next => omega); (try go_simp))); try rfl; done))
    try simp only [Act.put, List.setIfInBounds_toArray, List.set_cons_zero, List.set_cons_succ]
    refine rt_k (fun W => W.cell? ⟨q1, 0, none⟩ = some (.int .i64 t) ∧ W.cell? ⟨q1, 1, none⟩ = some (.slice Aq q.length cq)) (i := 8) (oi := { dst := some 3, op := .alloc 68, type := 0, pos := "register.go:38", after := #[], guard := none }) (by kernel_rfl) (HS.out _ cd6) (fun _ h => h) rfl (by rfl) (fun K hK => ?_)
    go_simp
    refine hK _ _ ?_
    clear hK K
    try simp only [Act.put, List.setIfInBounds_toArray, List.set_cons_zero, List.set_cons_succ]
    have o5 := alloc_obj w6 (.cells #[.int .i64 0, .slice none 0 0, .slice none 0 0] 68)
    have cd7 := cd6.alloc (.cells #[.int .i64 0, .slice none 0 0, .slice none 0 0] 68)
    have hq5 : w0.heap.size ≤ w6.heap.size := cd6.size
    generalize w6.alloc (.cells #[.int .i64 0, .slice none 0 0, .slice none 0 0] 68) = w7 at *
    generalize w6.heap.size = q5 at *
    clear cd6
    have z0 := cell_obj (i := 0) o5 rfl
    have z1 := cell_obj (i := 1) o5 rfl
    have z2 := cell_obj (i := 2) o5 rfl
    have f0 := free_obj (i := 0) o5
    have f1 := free_obj (i := 1) o5
    have f2 := free_obj (i := 2) o5
    refine rt_k (fun W => W.cell? ⟨q1, 0, none⟩ = some (.int .i64 t) ∧ W.cell? ⟨q1, 1, none⟩ = some (.slice Aq q.length cq)) (i := 9) (oi := { dst := none, op := .store 68 (.tmp 3) (.tmp 13), type := 0, pos := "register.go:38", after := #[{ on := 8, ground := .data }, { on := 7, ground := .data }, { on := 6, ground := .chain }, { on := 0, ground := .phase }, { on := 1, ground := .phase }, { on := 2, ground := .phase }, { on := 3, ground := .phase }, { on := 4, ground := .phase }, { on := 5, ground := .phase }, { on := 6, ground := .phase }, { on := 7, ground := .phase }, { on := 8, ground := .phase }], guard := none }) (by kernel_rfl) (HS.out _ cd7) (fun _ h => h) rfl (by rfl) (fun K hK => ?_)
    go_simp
    refine hK _ _ ?_
    clear hK K
    try simp only [Act.put, List.setIfInBounds_toArray, List.set_cons_zero, List.set_cons_succ]
    refine rt_done (by kernel_rfl)  ?_
    obtain ⟨p5, hcs⟩ := set3 o5 (.int .i64 t) (.slice An q.length cn) (.slice none 0 0)
    have hsu := (hsn.keep (hcs.weak (fun i _ hi => .inr hi)))
    have hcu : Chg No w0 (((w7.setCell ⟨q5, 0, none⟩ (.int .i64 t)).setCell ⟨q5, 1, none⟩ (.slice An q.length cn)).setCell ⟨q5, 2, none⟩ (.slice none 0 0)) := cd7.old hcs (fun i h => by simp only [At] at h; omega)
    clear z0 z1 z2 f0 f1 f2 o5 cd7 hcs hsn
    generalize (((w7.setCell ⟨q5, 0, none⟩ (.int .i64 t)).setCell ⟨q5, 1, none⟩ (.slice An q.length cn)).setCell ⟨q5, 2, none⟩ (.slice none 0 0)) = u at p5 hcu hsu ⊢
  all_goals
    clear cd HS
    have hc0u := hc0.trans hcu
    have hq1l := lt_of_heap o1
    have hq2l := lt_of_heap o2
    have hne1 : q5 ≠ q1 := by omega
    have hne2 : q5 ≠ q2 := by omega
    replace o1 := hcu.obj o1 (not_no _)
    replace o2 := hcu.obj o2 (not_no _)
    have b2 := cell_obj (i := 2) o1 rfl
    have hw0 := hc0.size
    have hq5l := lt_of_heap p5
    have Hsu := Lib.hid hsu
    clear hsu hcu hq1l
    go_wp2_with (with_reducible first | refine stop_append ?_ | refine stop_copy ?_ | refine stop_make ?_ | refine stop_lookup ?_ | refine stop_update ?_ | refine stop_slice ?_ | refine stop_range ?_ | refine stop_next ?_ | refine stop_convert ⟨_, rfl⟩ ?_ | refine stop_convertB ⟨_, _, _, rfl⟩ ?_ | refine stop_eqSlice ⟨_, _, rfl⟩ ?_)
    go_loopw [18] (fun v18 wr => ∃ (k : Nat) (v3 : Value), k ≤ s.length ∧ v18 = .int .i64 k ∧ Chg (At q5) u wr ∧ wr.heap[q5]? = some (.cells #[.int .i64 t, .slice An q.length cn, v3] 68 (0, 0)) ∧ Cb.Own (Or (Lt w0.heap.size) (At q5)) wr u.heap.size 46 v3 (s.take k)) (fun v18 _ => s.length - (intOf v18).toNat)
    case atStart => exact ⟨0, .slice none 0 0, by omega, rfl, Chg.refl _ _, p5, Cb.Own.nil _ _ _ _⟩
    case round =>
      clear p5 b2
      obtain ⟨k, v3, hk, rfl, hcr, p5, hown⟩ := hrel
      have hcw : Chg No w wr := hc0u.old hcr (fun i h => by simp only [At] at h; omega)
      by_cases hlt2 : k < s.length
      · obtain ⟨b, ob, vx, rfl, _, hbl, hx0, hux⟩ := rowT_get (Hs.out wr hcw) k hlt2
        have htk := List.take_succ_eq_append_getElem hlt2
        have hxl := Hbs.out _ (List.getElem_mem hlt2)
        have hlen : (s.take k).length = k := by simp; omega
        generalize s[k] = x at *
        generalize s.take k = acc at *
        obtain ⟨Ax, cx, rfl⟩ := hux.slice
        obtain ⟨A3, c3, rfl⟩ := hown.slice
        have Hcl := Lib.hid (fun W (hW : Chg No wr W) => vclone_any _ _ x W (hux.keepNo hW) hxl)
        have Hown := Lib.hid hown
        have Htk := Lib.hid htk
        have Hlen := Lib.hid hlen
        clear hown htk hlen hux
        go_wp2_with (with_reducible first | refine stop_append ?_ | refine stop_copy ?_ | refine stop_make ?_ | refine stop_lookup ?_ | refine stop_update ?_ | refine stop_slice ?_ | refine stop_range ?_ | refine stop_next ?_ | refine stop_convert ⟨_, rfl⟩ ?_ | refine stop_convertB ⟨_, _, _, rfl⟩ ?_ | refine stop_eqSlice ⟨_, _, rfl⟩ ?_)
        have HS2 := Lib.hid (show ∀ W, Chg No wr W → (fun W => W.cell? ⟨q5, 2, none⟩ = some (.slice A3 acc.length c3)) W from fun W hW => cell_obj (hW.obj p5 (not_no _)) rfl)
        have cd := (Chg.refl No wr).drew
        refine rt_start (fun W => W.cell? ⟨q5, 2, none⟩ = some (.slice A3 acc.length c3)) (by kernel_rfl) ?_
        ((refine rt_yes (i := 0) (oi := { dst := some 22, op := .fieldAddr 68 (.tmp 3) 2, type := 0, pos := "register.go:40", after := #[], guard := none }) (v := ?_) rfl (by kernel_rfl) (by kernel_rfl) (by kernel_rfl) (fun _ _ _ h => h) rfl ?_ ?_); rotate_left; focus (intro W hW; (try dsimp only at hW); go_split_ands; go_simp; (try (simp (disch := omega) only [IntWalk.i64_in]; (try go_simp))); (try (split; (next => omega); (try go_simp))); try rfl; done))
        try simp only [Act.put, List.setIfInBounds_toArray, List.set_cons_zero, List.set_cons_succ]
        ((refine rt_yes (i := 1) (oi := { dst := some 23, op := .load 61 (.tmp 22), type := 61, pos := "register.go:40", after := #[{ on := 0, ground := .data }], guard := none }) (v := ?_) rfl (by kernel_rfl) (by kernel_rfl) (by kernel_rfl) (fun _ _ _ h => h) rfl ?_ ?_); rotate_left; focus (intro W hW; (try dsimp only at hW); go_split_ands; go_simp; (try (simp (disch := omega) only [IntWalk.i64_in]; (try go_simp))); (try (split; (next => omega); (try go_simp))); try rfl; done))
        try simp only [Act.put, List.setIfInBounds_toArray, List.set_cons_zero, List.set_cons_succ]
        ((refine rt_yes (i := 2) (oi := { dst := some 24, op := .move (.tmp 5), type := 46, pos := "register.go:40", after := #[], guard := none }) (v := ?_) rfl (by kernel_rfl) (by kernel_rfl) (by kernel_rfl) (fun _ _ _ h => h) rfl ?_ ?_); rotate_left; focus (intro W hW; (try dsimp only at hW); go_split_ands; go_simp; (try (simp (disch := omega) only [IntWalk.i64_in]; (try go_simp))); (try (split; (next => omega); (try go_simp))); try rfl; done))
        try simp only [Act.put, List.setIfInBounds_toArray, List.set_cons_zero, List.set_cons_succ]
        refine rt_k (fun W => W.cell? ⟨q5, 2, none⟩ = some (.slice A3 acc.length c3)) (i := 3) (oi := { dst := some 25, op := .call { callee := .value (.func 66), args := #[.tmp 24], argTypes := #[46] }, type := 46, pos := "register.go:40", after := #[{ on := 2, ground := .data }], guard := none }) (by kernel_rfl) (HS2.out _ cd) (fun _ h => h) rfl (by rfl) (fun K hK => ?_)
        go_simp
        refine (Hcl.out _ cd).mono ?_
        rintro e w3 ⟨vn, rfl, hc3, hsn⟩
        obtain ⟨Am, cm, rfl⟩ := hsn.slice
        have cd3 := cd.trans hc3
        refine hK _ _ ?_
        clear hK K
        try simp only [Act.put, List.setIfInBounds_toArray, List.set_cons_zero, List.set_cons_succ]
        refine rt_k (fun W => W.cell? ⟨q5, 2, none⟩ = some (.slice A3 acc.length c3)) (i := 4) (oi := { dst := some 26, op := .buildSlice 61 1 #[(0, .tmp 25)], type := 61, pos := "register.go:40", after := #[{ on := 3, ground := .data }], guard := none }) (by kernel_rfl) (HS2.out _ cd3) (fun _ h => h) rfl (by rfl) (fun K hK => ?_)
        go_simp
        refine hK _ _ ?_
        clear hK K
        try simp only [Act.put, List.setIfInBounds_toArray, List.set_cons_zero, List.set_cons_succ]
        have hcu0 := hcr.size
        have hwr0 := hcw.size
        have hwu0 := hc0u.size
        have hobl : ∀ i, OB (.slice A3 acc.length c3) i → u.heap.size ≤ i ∧ i < wr.heap.size := fun i hi => Hown.out.lt i hi
        have hdr : wr.drew.heap.size = wr.heap.size := rfl
        have hlit : Sl (Or (Or (Lt w0.heap.size) (At q5)) (OB (.slice A3 acc.length c3))) (w3.alloc (.cells #[.slice Am x.length cm] 46)) (.slice (some ⟨w3.heap.size, 0, none⟩) 1 1) [x] :=
          Sl.lit1 rfl ⟨_, rfl, hsn.weak (fun b _ hb => by
            simp only [Lt]
            rcases hb with (hb | hb) | hb
            · simp only [Lt] at hb; omega
            · simp only [At] at hb; omega
            · have := hobl _ hb; omega)⟩ (fun hb => by
            have := cd3.size
            rcases hb with (hb | hb) | hb
            · simp only [Lt] at hb; omega
            · simp only [At] at hb; omega
            · have := hobl _ hb; omega)
        have cd4 := cd3.alloc (.cells #[.slice Am x.length cm] 46)
        refine rt_append_sl (α := List Int) (F := Or (Lt w0.heap.size) (At q5)) (G := Or (Or (Lt w0.heap.size) (At q5)) (OB (.slice A3 acc.length c3))) (fun W => W.cell? ⟨q5, 2, none⟩ = some (.slice A3 acc.length c3)) (i := 5) (by kernel_rfl) (HS2.out _ cd4) (fun _ h => h) rfl rfl Try.underlying61 vinfo_ints rfl (Hown.out.keep cd4 (fun _ _ f => f.elim) (fun _ _ f => f)) rfl rfl hlit (fun i _ hi => hi) (by have := Hlen.out; simp; omega) (by have := Hlen.out; simp; omega) (by have := cd4.size; omega) ?_
        intro v6 w6 hown6 hg6
        rw [← Htk.out] at hown6
        obtain ⟨A6, c6, e6⟩ := hown6.slice
        rw [show (s.take (k + 1)).length = k + 1 by simp; omega] at e6
        subst e6
        have ho6 := hg6.chg.obj (cd4.obj p5 (not_no _)) (fun h => by have := hobl _ h; omega)
        have hcr6 : Chg (At q5) u w6 := (hcr.trans cd4.of_no).grew hg6 (fun i hi => .inr (hobl i hi).1)
        have z2 := cell_obj (i := 2) ho6 rfl
        have f2 := free_obj (i := 2) ho6
        have Hown6 := Lib.hid hown6
        clear hown6 hlit hg6
        try simp only [Act.put, List.setIfInBounds_toArray, List.set_cons_zero, List.set_cons_succ]
        ((refine rt_yes (i := 6) (oi := { dst := some 28, op := .fieldAddr 68 (.tmp 3) 2, type := 0, pos := "register.go:40", after := #[{ on := 0, ground := .phase }, { on := 1, ground := .phase }, { on := 2, ground := .phase }, { on := 3, ground := .phase }, { on := 4, ground := .phase }, { on := 5, ground := .phase }], guard := none }) (v := ?_) rfl (by kernel_rfl) (by kernel_rfl) (by kernel_rfl) (fun _ _ _ h => h) rfl ?_ ?_); rotate_left; focus (intro W hW; (try dsimp only at hW); go_split_ands; go_simp; (try (simp (disch := omega) only [IntWalk.i64_in]; (try go_simp))); (try (split; (next => omega); (try go_simp))); try rfl; done))
        try simp only [Act.put, List.setIfInBounds_toArray, List.set_cons_zero, List.set_cons_succ]
        refine rt_k (fun W => W.cell? ⟨q5, 2, none⟩ = some (.slice A3 acc.length c3)) (i := 7) (oi := { dst := none, op := .store 61 (.tmp 28) (.tmp 27), type := 0, pos := "register.go:40", after := #[{ on := 6, ground := .data }, { on := 5, ground := .data }, { on := 5, ground := .chain }, { on := 0, ground := .phase }, { on := 1, ground := .phase }, { on := 2, ground := .phase }, { on := 3, ground := .phase }, { on := 4, ground := .phase }, { on := 5, ground := .phase }], guard := none }) (by kernel_rfl) z2 (fun _ h => h) rfl (by rfl) (fun K hK => ?_)
        go_simp
        refine hK _ _ ?_
        clear hK K
        try simp only [Act.put, List.setIfInBounds_toArray, List.set_cons_zero, List.set_cons_succ]
        refine rt_done (by kernel_rfl)  ?_
        have ho7 := obj_set (i := 2) (u := .slice A6 (k + 1) c6) ho6 rfl
        have hcr7 : Chg (At q5) u (w6.setCell ⟨q5, 2, none⟩ (.slice A6 (k + 1) c6)) := hcr6.setCell (p := ⟨q5, 2, none⟩) (.inl rfl) _
        have Hown7 := Lib.hid (Hown6.out.keep (chg_set (b := q5) (i := 2) (.slice A6 (k + 1) c6)) (fun b _ hb => .inr hb) (fun i hi h => by have := (Hown6.out.lt i hi).1; simp only [At] at h; omega))
        clear z2 f2 ho6
        generalize w6.setCell ⟨q5, 2, none⟩ (.slice A6 (k + 1) c6) = w7 at *
        go_wp2_with (with_reducible first | refine stop_append ?_ | refine stop_copy ?_ | refine stop_make ?_ | refine stop_lookup ?_ | refine stop_update ?_ | refine stop_slice ?_ | refine stop_range ?_ | refine stop_next ?_ | refine stop_convert ⟨_, rfl⟩ ?_ | refine stop_convertB ⟨_, _, _, rfl⟩ ?_ | refine stop_eqSlice ⟨_, _, rfl⟩ ?_)
        go_roundw
        case rel => exact ⟨k + 1, _, by omega, by go_num, hcr7, ho7, Hown7.out⟩
        case measure => simp [intOf]; omega
      · obtain rfl : k = s.length := by omega
        rw [List.take_length] at hown
        obtain ⟨A3, c3, rfl⟩ := hown.slice
        have hcu0 := hcr.size
        have Hvs := Lib.hid (hown.sl (fun i hi h => by
          have := (hown.lt i hi).1
          have := hc0u.size
          rcases h with h | h
          · simp only [Lt] at h; omega
          · simp only [At] at h; omega))
        have Hvq := Lib.hid (Hsu.out.keep (hcr.weak (fun i _ hi => .inr hi)))
        clear hown
        have o1r := hcr.obj o1 (fun h => hne1 h.symm)
        have o2r := hcr.obj o2 (fun h => hne2 h.symm)
        clear o1 o2
        go_wp2_with (with_reducible first | refine stop_append ?_ | refine stop_copy ?_ | refine stop_make ?_ | refine stop_lookup ?_ | refine stop_update ?_ | refine stop_slice ?_ | refine stop_range ?_ | refine stop_next ?_ | refine stop_convert ⟨_, rfl⟩ ?_ | refine stop_convertB ⟨_, _, _, rfl⟩ ?_ | refine stop_eqSlice ⟨_, _, rfl⟩ ?_)
        have HS3 := Lib.hid (show ∀ W, Chg No wr W → (fun W => W.cell? ⟨q5, 0, none⟩ = some (.int .i64 t) ∧ W.cell? ⟨q5, 1, none⟩ = some (.slice An q.length cn) ∧ W.cell? ⟨q5, 2, none⟩ = some (.slice A3 s.length c3) ∧ W.cell? ⟨q1, 3, none⟩ = some (.slice At0 l.length ct) ∧ W.cell? ⟨q1, 4, none⟩ = some (.bool o)) W from fun W hW => ⟨cell_obj (hW.obj p5 (not_no _)) rfl, cell_obj (hW.obj p5 (not_no _)) rfl, cell_obj (hW.obj p5 (not_no _)) rfl, cell_obj (hW.obj o1r (not_no _)) rfl, cell_obj (hW.obj o1r (not_no _)) rfl⟩)
        have cd := (Chg.refl No wr).drew
        refine rt_start (fun W => W.cell? ⟨q5, 0, none⟩ = some (.int .i64 t) ∧ W.cell? ⟨q5, 1, none⟩ = some (.slice An q.length cn) ∧ W.cell? ⟨q5, 2, none⟩ = some (.slice A3 s.length c3) ∧ W.cell? ⟨q1, 3, none⟩ = some (.slice At0 l.length ct) ∧ W.cell? ⟨q1, 4, none⟩ = some (.bool o)) (by kernel_rfl) ?_
        ((refine rt_yes (i := 0) (oi := { dst := some 30, op := .load 68 (.tmp 3), type := 68, pos := "register.go:42", after := #[], guard := none }) (v := ?_) rfl (by kernel_rfl) (by kernel_rfl) (by kernel_rfl) (fun _ _ _ h => h) rfl ?_ ?_); rotate_left; focus (intro W hW; (try dsimp only at hW); go_split_ands; go_simp; (try (simp (disch := omega) only [IntWalk.i64_in]; (try go_simp))); (try (split; (next => omega); (try go_simp))); try rfl; done))
        try simp only [Act.put, List.setIfInBounds_toArray, List.set_cons_zero, List.set_cons_succ]
        ((refine rt_yes (i := 1) (oi := { dst := some 31, op := .fieldAddr 88 (.tmp 1) 1, type := 0, pos := "register.go:42", after := #[], guard := none }) (v := ?_) rfl (by kernel_rfl) (by kernel_rfl) (by kernel_rfl) (fun _ _ _ h => h) rfl ?_ ?_); rotate_left; focus (intro W hW; (try dsimp only at hW); go_split_ands; go_simp; (try (simp (disch := omega) only [IntWalk.i64_in]; (try go_simp))); (try (split; (next => omega); (try go_simp))); try rfl; done))
        try simp only [Act.put, List.setIfInBounds_toArray, List.set_cons_zero, List.set_cons_succ]
        ((refine rt_yes (i := 2) (oi := { dst := some 32, op := .load 28 (.tmp 31), type := 28, pos := "register.go:42", after := #[{ on := 1, ground := .data }], guard := none }) (v := ?_) rfl (by kernel_rfl) (by kernel_rfl) (by kernel_rfl) (fun _ _ _ h => h) rfl ?_ ?_); rotate_left; focus (intro W hW; (try dsimp only at hW); go_split_ands; go_simp; (try (simp (disch := omega) only [IntWalk.i64_in]; (try go_simp))); (try (split; (next => omega); (try go_simp))); try rfl; done))
        try simp only [Act.put, List.setIfInBounds_toArray, List.set_cons_zero, List.set_cons_succ]
        ((refine rt_yes (i := 4) (oi := { dst := some 34, op := .fieldAddr 88 (.tmp 1) 2, type := 0, pos := "register.go:42", after := #[], guard := none }) (v := ?_) rfl (by kernel_rfl) (by kernel_rfl) (by kernel_rfl) (fun _ _ _ h => h) rfl ?_ ?_); rotate_left; focus (intro W hW; (try dsimp only at hW); go_split_ands; go_simp; (try (simp (disch := omega) only [IntWalk.i64_in]; (try go_simp))); (try (split; (next => omega); (try go_simp))); try rfl; done))
        try simp only [Act.put, List.setIfInBounds_toArray, List.set_cons_zero, List.set_cons_succ]
        ((refine rt_yes (i := 5) (oi := { dst := some 35, op := .load 4 (.tmp 34), type := 4, pos := "register.go:42", after := #[{ on := 4, ground := .data }], guard := none }) (v := ?_) rfl (by kernel_rfl) (by kernel_rfl) (by kernel_rfl) (fun _ _ _ h => h) rfl ?_ ?_); rotate_left; focus (intro W hW; (try dsimp only at hW); go_split_ands; go_simp; (try (simp (disch := omega) only [IntWalk.i64_in]; (try go_simp))); (try (split; (next => omega); (try go_simp))); try rfl; done))
        try simp only [Act.put, List.setIfInBounds_toArray, List.set_cons_zero, List.set_cons_succ]
        refine rt_k (fun W => W.cell? ⟨q5, 0, none⟩ = some (.int .i64 t) ∧ W.cell? ⟨q5, 1, none⟩ = some (.slice An q.length cn) ∧ W.cell? ⟨q5, 2, none⟩ = some (.slice A3 s.length c3) ∧ W.cell? ⟨q1, 3, none⟩ = some (.slice At0 l.length ct) ∧ W.cell? ⟨q1, 4, none⟩ = some (.bool o)) (i := 3) (oi := { dst := some 33, op := .call { callee := .value (.func 72), args := #[.tmp 32], argTypes := #[28] }, type := 28, pos := "register.go:42", after := #[{ on := 2, ground := .data }], guard := none }) (by kernel_rfl) (HS3.out _ cd) (fun _ h => h) rfl (by rfl) (fun K hK => ?_)
        go_simp
        refine (Ht.out _ (hcw.trans cd)).mono ?_
        rintro e w3 ⟨vn, rfl, hc3, hsn⟩
        obtain ⟨Al, cl, rfl⟩ := hsn.slice
        have cd3 := cd.trans hc3
        have o23 := cd3.obj o2r (not_no _)
        have hs3 := HS3.out _ cd3
        have Hsn := Lib.hid hsn
        clear o2r hsn
        have z0 := cell_obj (i := 0) o23 rfl
        have z1 := cell_obj (i := 1) o23 rfl
        have z2 := cell_obj (i := 2) o23 rfl
        have z3 := cell_obj (i := 3) o23 rfl
        have z4 := cell_obj (i := 4) o23 rfl
        have f0 := free_obj (i := 0) o23
        have f1 := free_obj (i := 1) o23
        have f2 := free_obj (i := 2) o23
        have f3 := free_obj (i := 3) o23
        have f4 := free_obj (i := 4) o23
        refine hK _ _ ?_
        clear hK K
        try simp only [Act.put, List.setIfInBounds_toArray, List.set_cons_zero, List.set_cons_succ]
        ((refine rt_yes (i := 6) (oi := { dst := some 36, op := .build 88 #[(0, .tmp 30), (1, .tmp 33), (2, .tmp 35)], type := 88, pos := "register.go:42", after := #[{ on := 0, ground := .data }, { on := 3, ground := .data }, { on := 5, ground := .data }], guard := none }) (v := ?_) rfl (by kernel_rfl) (by kernel_rfl) (by kernel_rfl) (fun _ _ _ h => h) rfl ?_ ?_); rotate_left; focus (intro W hW; (try dsimp only at hW); go_split_ands; go_simp; (try (simp (disch := omega) only [IntWalk.i64_in]; (try go_simp))); (try (split; (next => omega); (try go_simp))); try rfl; done))
        try simp only [Act.put, List.setIfInBounds_toArray, List.set_cons_zero, List.set_cons_succ]
        refine rt_k (fun W => W.cell? ⟨q5, 0, none⟩ = some (.int .i64 t) ∧ W.cell? ⟨q5, 1, none⟩ = some (.slice An q.length cn) ∧ W.cell? ⟨q5, 2, none⟩ = some (.slice A3 s.length c3) ∧ W.cell? ⟨q1, 3, none⟩ = some (.slice At0 l.length ct) ∧ W.cell? ⟨q1, 4, none⟩ = some (.bool o)) (i := 7) (oi := { dst := none, op := .store 88 (.tmp 2) (.tmp 36), type := 0, pos := "register.go:42", after := #[{ on := 6, ground := .data }, { on := 3, ground := .chain }, { on := 0, ground := .phase }, { on := 1, ground := .phase }, { on := 2, ground := .phase }, { on := 3, ground := .phase }, { on := 4, ground := .phase }, { on := 5, ground := .phase }, { on := 6, ground := .phase }], guard := none }) (by kernel_rfl) hs3 (fun _ h => h) rfl (by rfl) (fun K hK => ?_)
        go_simp
        refine hK _ _ ?_
        clear hK K
        try simp only [Act.put, List.setIfInBounds_toArray, List.set_cons_zero, List.set_cons_succ]
        refine rt_done (by kernel_rfl)  ?_
        obtain ⟨o9, hc9⟩ := set5 o23 (.int .i64 t) (.slice An q.length cn) (.slice A3 s.length c3) (.slice Al l.length cl) (.bool o)
        clear z0 z1 z2 z3 z4 f0 f1 f2 f3 f4 hs3 o23
        generalize ((((w3.setCell ⟨q2, 0, none⟩ (.int .i64 t)).setCell ⟨q2, 1, none⟩ (.slice An q.length cn)).setCell ⟨q2, 2, none⟩ (.slice A3 s.length c3)).setCell ⟨q2, 3, none⟩ (.slice Al l.length cl)).setCell ⟨q2, 4, none⟩ (.bool o) = w9 at *
        have z0 := cell_obj (i := 0) o9 rfl
        have z1 := cell_obj (i := 1) o9 rfl
        have z2 := cell_obj (i := 2) o9 rfl
        have z3 := cell_obj (i := 3) o9 rfl
        have z4 := cell_obj (i := 4) o9 rfl
        have hq2w : w.heap.size ≤ q2 := by have := Hq2.out; omega
        have hcw9 : Chg No w w9 := (hcw.trans cd3).old hc9 (fun i h => by simp only [At] at h; omega)
        have hdr : wr.drew.heap.size = wr.heap.size := rfl
        have hcwz := hcw.size
        have hwu0 := hc0u.size
        have Hvq9 := Lib.hid (((Hvq.out.keepNo cd3).keep (hc9.weak (fun i _ hi => .inl (by simp only [At] at hi; simp only [Lt]; omega)))).weak (G := Lt w.heap.size) (fun i _ hi => .inl (by simp only [Lt] at *; omega)))
        have Hvs9 := Lib.hid (((Hvs.out.keepNo cd3).keep (hc9.weak (fun i _ hi => .inl (by simp only [At] at hi; simp only [Lt]; omega)))).weak (G := Lt w.heap.size) (fun i _ hi => .inl (by simp only [Lt] at *; omega)))
        have Hvt9 := Lib.hid (((Hsn.out).keep (hc9.weak (fun i _ hi => by simp only [At] at hi; simp only [Lt]; omega))).weak (G := Lt w.heap.size) (fun i _ hi => by simp only [Lt] at *; omega))
        go_wp2_with (with_reducible first | refine stop_append ?_ | refine stop_copy ?_ | refine stop_make ?_ | refine stop_lookup ?_ | refine stop_update ?_ | refine stop_slice ?_ | refine stop_range ?_ | refine stop_next ?_ | refine stop_convert ⟨_, rfl⟩ ?_ | refine stop_convertB ⟨_, _, _, rfl⟩ ?_ | refine stop_eqSlice ⟨_, _, rfl⟩ ?_)
        refine bodyPost_ret (v := .agg #[.int .i64 t, .slice An q.length cn, .slice A3 s.length c3, .slice Al l.length cl, .bool o]) (by simp [results, Try.results67, go_sem, *]) rfl ?_
        exact ⟨_, _, _, rfl, hcw9, Hvq9.out, Hvs9.out, Hvt9.out⟩
end Go.Proofs.Ytbjpoamnglfjeaa


/- Walks of package register: what a register is in memory; New, First. -/
set_option linter.unusedVariables false
set_option linter.unusedSimpArgs false
namespace Go.Proofs.Ytbjpoamnglfjeaa
open Go.RowKit Cb

/-- A term's row: term, sequencers, shards, tail, over. -/
abbrev Rw := Int × List Int × List (List Int) × List Ent × Bool
def rwC (r : Rw) (vq vs vt : Value) : List Value := [.int .i64 r.1, vq, vs, vt, .bool r.2.2.2.2]
theorem rw_cs {F : Nat → Prop} {w : World} {r : Rw} {d : List Value} (h : Rep.cs F w r d) : ∃ vq vs vt, d = rwC r vq vs vt ∧ Sl F w vq r.2.1 ∧ Sl F w vs r.2.2.1 ∧ Sl F w vt r.2.2.2.1 := by
  obtain ⟨d1, d2, rfl, rfl, ⟨d3, d4, rfl, ⟨vq, rfl, hq⟩, ⟨d5, d6, rfl, ⟨vs, rfl, hs⟩, ⟨d7, d8, rfl, ⟨vt, rfl, ht⟩, rfl⟩⟩⟩⟩ := h
  exact ⟨vq, vs, vt, rfl, hq, hs, ht⟩
theorem rw_mk {F : Nat → Prop} {w : World} (r : Rw) {vq vs vt : Value} (hq : Sl F w vq r.2.1) (hs : Sl F w vs r.2.2.1) (ht : Sl F w vt r.2.2.2.1) : Rep.cs F w r (rwC r vq vs vt) :=
  ⟨[_], _, rfl, rfl, [_], _, rfl, ⟨_, rfl, hq⟩, [_], _, rfl, ⟨_, rfl, hs⟩, [_], [_], rfl, ⟨_, rfl, ht⟩, rfl⟩
theorem rw_n : Rep.n Rw = 5 := rfl
theorem info_rw : Info Try.prog 88 (.agg #[.int .i64 0, .slice none 0 0, .slice none 0 0, .slice none 0 0, .bool false]) 5 88 := by unfold Info; kernel_rfl
theorem own_lit1 {α : Type} [Rep α] {F : Nat → Prop} {w : World} {T : TypeId} {y : α} {d : List Value} {C : Array Value} (hC : C = d.toArray)
    (hd : Rep.cs (Or F (OB (.slice (some ⟨w.heap.size, 0, none⟩) 1 1))) (w.alloc (.cells C T)) y d) : Cb.Own F (w.alloc (.cells C T)) w.heap.size T (.slice (some ⟨w.heap.size, 0, none⟩) 1 1) [y] := by
  have hl := Rep.len hd
  refine ⟨[d], rfl, fun i h h' => ?_, by simp [hl], .inr ⟨_, 1, C, rfl, Nat.le_refl _, alloc_obj _ _, by simp, by simp [maxLen], by simp [hC, hl], by simp [hC, ← hl]⟩⟩
  simp only [List.length_singleton, Nat.lt_one_iff] at h
  subst h
  exact hd
theorem own_base {α : Type} [Rep α] {F : Nat → Prop} {w : World} {base base' : Nat} {T : TypeId} {v : Value} {xs : List α} (h : Cb.Own F w base T v xs) (hb : base' ≤ base) : Cb.Own F w base' T v xs := by
  obtain ⟨ds, hl, hd, ho1, ho2⟩ := h
  exact ⟨ds, hl, hd, ho1, ho2.imp id (fun ⟨g, cap, cur, a, b, c⟩ => ⟨g, cap, cur, a, Nat.le_trans hb b, c⟩)⟩
def RegS (w : World) (B p : Nat) (rows : List Rw) : Prop :=
  ∃ v, w.heap[p]? = some (.cells #[v] 137 (0, 0)) ∧ B ≤ p ∧ Cb.Own (Or (Lt B) (At p)) w B 88 v rows ∧ ∀ k, v.ownBlock = some k → k ≠ p
theorem RegS.lt {w : World} {B p : Nat} {rows : List Rw} (h : RegS w B p rows) : p < w.heap.size := by
  obtain ⟨v, h1, _⟩ := h; exact lt_of_heap h1
theorem RegS.keep {w w' : World} {B p : Nat} {rows : List Rw} {G : Nat → Prop} (h : RegS w B p rows) (hc : Chg G w w') (hG : ∀ k, k < w.heap.size → G k → k < B) : RegS w' B p rows := by
  obtain ⟨v, h1, h2, h3, h4⟩ := h
  exact ⟨v, hc.obj h1 (fun g => by have := hG p (lt_of_heap h1) g; omega), h2, h3.keep hc (fun b hb g => .inl (by simp only [Lt]; exact hG b hb g)) (fun k hk g => by have := h3.lt k hk; have := hG k (by omega) g; omega), h4⟩
theorem RegS.keepNo {w w' : World} {B p : Nat} {rows : List Rw} (h : RegS w B p rows) (hc : Chg No w w') : RegS w' B p rows := h.keep hc (fun _ _ f => f.elim)
set_option maxRecDepth 100000 in
set_option maxHeartbeats 1000000 in
theorem new_no (F G : Nat → Prop) (t : Int) (vq vs : Value) (q : List Int) (s : List (List Int)) (w : World) (hq : Sl F w vq q) (hs : Sl G w vs s) (hlq : q.length * 8 ≤ 140737488351232) (hls : s.length ≤ 17592186044416) (hb : ∀ x ∈ s, x.length * 8 ≤ 140737488351232)
    (hr : rightC t q s = false) : Calls Try.prog 30 #[cfgV t vq vs] w fun e w' => e = .returned (.tuple #[.pointer none, .int .i64 1]) ∧ Chg No w w' := by
  have Hr := Lib.hid (fun W (hW : Chg No w W) => tright_any F G t vq vs q s W (hq.keepNo hW) (hs.keepNo hW) hlq hls hb)
  rw [hr] at Hr
  clear hr
  obtain ⟨Aq, cq, rfl⟩ := hq.slice
  obtain ⟨As, cs, rfl⟩ := hs.slice
  clear hq hs hb
  unfold cfgV at *
  have o1 := alloc_obj w (.cells #[.int .i64 t, .slice Aq q.length cq, .slice As s.length cs] 68)
  have hc0 := (Chg.refl No w).alloc (.cells #[.int .i64 t, .slice Aq q.length cq, .slice As s.length cs] 68)
  have a0 := cell_obj (i := 0) o1 rfl
  have a1 := cell_obj (i := 1) o1 rfl
  have a2 := cell_obj (i := 2) o1 rfl
  go_enter Try.func30, Try.ntmps30
  go_wp2_with (with_reducible first | refine stop_append ?_ | refine stop_copy ?_ | refine stop_make ?_ | refine stop_lookup ?_ | refine stop_update ?_ | refine stop_slice ?_ | refine stop_range ?_ | refine stop_next ?_ | refine stop_convert ⟨_, rfl⟩ ?_ | refine stop_convertB ⟨_, _, _, rfl⟩ ?_ | refine stop_eqSlice ⟨_, _, rfl⟩ ?_)
  refine (Hr.out _ hc0).mono ?_
  rintro e w1 ⟨rfl, hc1⟩
  go_wp2_with (with_reducible first | refine stop_append ?_ | refine stop_copy ?_ | refine stop_make ?_ | refine stop_lookup ?_ | refine stop_update ?_ | refine stop_slice ?_ | refine stop_range ?_ | refine stop_next ?_ | refine stop_convert ⟨_, rfl⟩ ?_ | refine stop_convertB ⟨_, _, _, rfl⟩ ?_ | refine stop_eqSlice ⟨_, _, rfl⟩ ?_)
  go_ret2
  exact ⟨rfl, hc0.trans hc1⟩
set_option maxRecDepth 100000 in
set_option maxHeartbeats 1000000 in
theorem new_yes (t : Int) (vq vs : Value) (q : List Int) (s : List (List Int)) (w : World) (hq : Sl No w vq q) (hs : Sl No w vs s)
    (hr : rightC t q s = true) : Calls Try.prog 30 #[cfgV t vq vs] w fun e w' => ∃ p, e = .returned (.tuple #[.pointer (some ⟨p, 0, none⟩), .int .i64 0]) ∧ Chg No w w' ∧ RegS w' w.heap.size p [(t, q, s, [], false)] := by
  obtain ⟨_, ⟨_, h7⟩, ⟨_, h8⟩, _, hall⟩ := rightC_iff.1 hr
  have h3 : ∀ x ∈ s, x.length ≤ 3 := fun x hx => by
    have := hall x hx
    simp only [shardB, Bool.and_eq_true, decide_eq_true_eq] at this
    exact this.1.2
  have Hr := Lib.hid (fun W (hW : Chg No w W) => tright_any No No t vq vs q s W (hq.keepNo hW) (hs.keepNo hW) (by omega) (by omega) (fun x hx => by have := h3 x hx; omega))
  rw [hr] at Hr
  have Ho := Lib.hid (fun W (hW : Chg No w W) => own_any t vq vs (.slice none 0 0) false q s [] W (hq.keepNo hW) (hs.keepNo hW) (Sl.nil _ _ _ _) (by omega) (by omega) (fun x hx => by have := h3 x hx; omega) (by simp) (fun _ h => by cases h))
  unfold rowV at Ho
  clear hr hall h3
  obtain ⟨Aq, cq, rfl⟩ := hq.slice
  obtain ⟨As, cs, rfl⟩ := hs.slice
  clear hq hs
  unfold cfgV at *
  have o1 := alloc_obj w (.cells #[.int .i64 t, .slice Aq q.length cq, .slice As s.length cs] 68)
  have hc0 := (Chg.refl No w).alloc (.cells #[.int .i64 t, .slice Aq q.length cq, .slice As s.length cs] 68)
  have a0 := cell_obj (i := 0) o1 rfl
  have a1 := cell_obj (i := 1) o1 rfl
  have a2 := cell_obj (i := 2) o1 rfl
  go_enter Try.func30, Try.ntmps30
  go_wp2_with (with_reducible first | refine stop_append ?_ | refine stop_copy ?_ | refine stop_make ?_ | refine stop_lookup ?_ | refine stop_update ?_ | refine stop_slice ?_ | refine stop_range ?_ | refine stop_next ?_ | refine stop_convert ⟨_, rfl⟩ ?_ | refine stop_convertB ⟨_, _, _, rfl⟩ ?_ | refine stop_eqSlice ⟨_, _, rfl⟩ ?_)
  generalize w.alloc (.cells #[.int .i64 t, .slice Aq q.length cq, .slice As s.length cs] 68) = w0 at *
  refine (Hr.out _ hc0).mono ?_
  rintro e w1 ⟨rfl, hc1⟩
  replace a0 := hc1.cell a0 (not_no _)
  replace a1 := hc1.cell a1 (not_no _)
  replace a2 := hc1.cell a2 (not_no _)
  have hcw1 := hc0.trans hc1
  clear o1
  go_wp2_with (with_reducible first | refine stop_append ?_ | refine stop_copy ?_ | refine stop_make ?_ | refine stop_lookup ?_ | refine stop_update ?_ | refine stop_slice ?_ | refine stop_range ?_ | refine stop_next ?_ | refine stop_convert ⟨_, rfl⟩ ?_ | refine stop_convertB ⟨_, _, _, rfl⟩ ?_ | refine stop_eqSlice ⟨_, _, rfl⟩ ?_)
  refine (Ho.out _ hcw1).mono ?_
  rintro e w2 ⟨vq', vs', vt', rfl, hc2, hq2, hs2, ht2⟩
  obtain ⟨Bq, dq, rfl⟩ := hq2.slice
  obtain ⟨Bs, ds, rfl⟩ := hs2.slice
  obtain ⟨Bt, dt, rfl⟩ := ht2.slice
  have hw1 := hcw1.size
  have hw2 := hc2.size
  have hwk : ∀ b, b < w2.heap.size → Or (Or (Lt w.heap.size) (At (w2.heap.size + 1))) (OB (.slice (some ⟨w2.heap.size, 0, none⟩) 1 1)) b → b < w1.heap.size := fun b hb h => by
    rcases h with (h | h) | h
    · simp only [Lt] at h; omega
    · simp only [At] at h; omega
    · simp only [OB, Value.ownBlock, Option.some.injEq] at h; omega
  have hca := (Chg.refl No w2).alloc (.cells #[.int .i64 t, .slice Bq q.length dq, .slice Bs s.length ds, .slice Bt ([] : List Ent).length dt, .bool false] 88)
  have hown := own_lit1 (F := Or (Lt w.heap.size) (At (w2.heap.size + 1))) (T := 88) (w := w2) (y := ((t, q, s, [], false) : Rw)) (d := rwC (t, q, s, [], false) (.slice Bq q.length dq) (.slice Bs s.length ds) (.slice Bt ([] : List Ent).length dt)) rfl
    (rw_mk (t, q, s, [], false) ((hq2.weak hwk).keepNo hca) ((hs2.weak hwk).keepNo hca) ((ht2.weak hwk).keepNo hca))
  simp only [rwC, List.length_nil] at hown
  simp only [List.length_nil] at hca ⊢
  have Hown := Lib.hid (own_base hown (base' := w.heap.size) (by omega))
  have hcw2 := hcw1.trans hc2
  clear hown hwk hq2 hs2 ht2 a0 a1 a2
  have he : (w2.alloc (.cells #[.int .i64 t, .slice Bq q.length dq, .slice Bs s.length ds, .slice Bt 0 dt, .bool false] 88)).heap.size = w2.heap.size + 1 := by simp
  have hob := alloc_obj (w2.alloc (.cells #[.int .i64 t, .slice Bq q.length dq, .slice Bs s.length ds, .slice Bt 0 dt, .bool false] 88)) (.cells #[.slice (some ⟨w2.heap.size, 0, none⟩) 1 1] 137)
  rw [he] at hob
  have hcb := (Chg.refl No (w2.alloc (.cells #[.int .i64 t, .slice Bq q.length dq, .slice Bs s.length ds, .slice Bt 0 dt, .bool false] 88))).alloc (.cells #[.slice (some ⟨w2.heap.size, 0, none⟩) 1 1] 137)
  have Hob := Lib.hid hob
  have Hcb := Lib.hid hcb
  have Hca := Lib.hid hca
  clear hob hcb hca he
  go_wp2_with (with_reducible first | refine stop_append ?_ | refine stop_copy ?_ | refine stop_make ?_ | refine stop_lookup ?_ | refine stop_update ?_ | refine stop_slice ?_ | refine stop_range ?_ | refine stop_next ?_ | refine stop_convert ⟨_, rfl⟩ ?_ | refine stop_convertB ⟨_, _, _, rfl⟩ ?_ | refine stop_eqSlice ⟨_, _, rfl⟩ ?_)
  go_ret2
  exact ⟨w2.heap.size + 1, rfl, (hcw2.trans Hca.out).trans Hcb.out, _, Hob.out, by omega, Hown.out.keep Hcb.out (fun _ _ f => f.elim) (fun _ _ f => f), fun k hk => by simp only [Value.ownBlock, Option.some.injEq] at hk; omega⟩
end Go.Proofs.Ytbjpoamnglfjeaa


/- Walks of package register: First, Current, at. -/
set_option linter.unusedVariables false
set_option linter.unusedSimpArgs false
namespace Go.Proofs.Ytbjpoamnglfjeaa
open Go.RowKit Cb

theorem rg_row {w : World} {B p : Nat} {rows : List Rw} (h : RegS w B p rows) (h0 : 0 < rows.length) :
    ∃ g c, w.cell? ⟨p, 0, none⟩ = some (.slice (some ⟨g, 0, none⟩) rows.length c) ∧ g ≠ p ∧ B ≤ g ∧ g < w.heap.size := by
  obtain ⟨v, h1, h2, h3, h4⟩ := h
  have hlt := h3.lt
  obtain ⟨ds, hl, hd, ho1, ho2⟩ := h3
  rcases ho2 with ⟨rfl, hn⟩ | ⟨g, cap, cur, rfl, hb, hg, _⟩
  · omega
  · exact ⟨g, cap, cell_obj h1 rfl, h4 g rfl, hb, lt_of_heap hg⟩
theorem rg_get {w : World} {B p : Nat} {rows : List Rw} (h : RegS w B p rows) {g n c : Nat} (hc : w.cell? ⟨p, 0, none⟩ = some (.slice (some ⟨g, 0, none⟩) n c)) (i : Nat) (hi : i < rows.length) :
    ∃ vq vs vt, w.cell? ⟨g, i * 5, none⟩ = some (.int .i64 rows[i].1) ∧ w.cell? ⟨g, i * 5 + 1, none⟩ = some vq ∧ w.cell? ⟨g, i * 5 + 2, none⟩ = some vs ∧ w.cell? ⟨g, i * 5 + 3, none⟩ = some vt ∧ w.cell? ⟨g, i * 5 + 4, none⟩ = some (.bool rows[i].2.2.2.2) ∧
      Sl (Lt B) w vq rows[i].2.1 ∧ Sl (Lt B) w vs rows[i].2.2.1 ∧ Sl (Lt B) w vt rows[i].2.2.2.1 := by
  obtain ⟨v, h1, h2, h3, h4⟩ := h
  have e := cell_obj (i := 0) h1 rfl
  rw [hc] at e
  obtain rfl := Option.some.inj e
  have hlt := h3.lt
  obtain ⟨b, o, d, e1, _, hb, hd, ha⟩ := (h3.sl (fun k hk hf => by
    have := hlt k hk
    rcases hf with hf | hf
    · simp only [Lt] at hf; omega
    · exact h4 k hk hf)).get i hi
  cases e1
  obtain ⟨vq, vs, vt, rfl, hq, hs, ht⟩ := rw_cs hd
  have k0 := ha 0 _ rfl; have k1 := ha 1 _ rfl; have k2 := ha 2 _ rfl; have k3 := ha 3 _ rfl; have k4 := ha 4 _ rfl
  simp only [rw_n, Nat.zero_add, Nat.add_zero] at k0 k1 k2 k3 k4
  exact ⟨vq, vs, vt, k0, k1, k2, k3, k4, hq.weak (fun _ _ f => .inl f), hs.weak (fun _ _ f => .inl f), ht.weak (fun _ _ f => .inl f)⟩
def TailB (l : List Ent) : Prop := l.length ≤ 2199023255488 ∧ ∀ e ∈ l, e.2.2.1.length ≤ 1000000
/-- What a tail that is handed in may be. -/
def TailI (l : List Ent) : Prop := l.length ≤ 2199023255488 ∧ ∀ e ∈ l, e.2.2.1.length ≤ 17592186043904
/-- The terms follow one another. -/
def RowsI (rows : List Rw) : Prop := 0 < rows.length ∧ rows.length ≤ 64 ∧ ∀ i (h : i < rows.length), rows[i].1 = (rows.headD (0, [], [], [], false)).1 + i ∧ rightC rows[i].1 rows[i].2.1 rows[i].2.2.1 = true ∧ TailB rows[i].2.2.2.1
def firstR (rows : List Rw) : Int := (rows.headD (0, [], [], [], false)).1
theorem first_get {rows : List Rw} (h : RowsI rows) (i : Nat) (hi : i < rows.length) : rows[i].1 = firstR rows + i := (h.2.2 i hi).1
theorem first_bound {rows : List Rw} (h : RowsI rows) : 1 ≤ firstR rows ∧ firstR rows + (rows.length - 1 : Nat) ≤ 64 := by
  have hn : 0 < rows.length := h.1
  have hn2 : rows.length - 1 < rows.length := by omega
  have r1 := (rightC_iff.1 (h.2.2 0 hn).2.1).1
  have r2 := (rightC_iff.1 (h.2.2 (rows.length - 1) hn2).2.1).1
  rw [first_get h 0 hn] at r1
  rw [first_get h _ hn2] at r2
  simp only [Int.natCast_zero, Int.add_zero] at r1
  omega
set_option maxRecDepth 100000 in
set_option maxHeartbeats 1000000 in
theorem rfirst_any (B p : Nat) (rows : List Rw) (w : World) (h : RegS w B p rows) (hi : RowsI rows) :
    Calls Try.prog 35 #[.pointer (some ⟨p, 0, none⟩)] w fun e w' => e = .returned (.int .i64 (firstR rows)) ∧ Chg No w w' := by
  obtain ⟨g, c, hc, -⟩ := rg_row h hi.1
  obtain ⟨vq, vs, vt, a0, -⟩ := rg_get h hc 0 hi.1
  rw [first_get hi 0 hi.1] at a0
  simp only [Nat.zero_mul, Int.natCast_zero, Int.add_zero] at a0
  have h0 := hi.1
  clear h hi
  generalize firstR rows = f at *
  go_enter Try.func35, Try.ntmps35
  go_wp2_with (with_reducible first | refine stop_append ?_ | refine stop_copy ?_ | refine stop_make ?_ | refine stop_lookup ?_ | refine stop_update ?_ | refine stop_slice ?_ | refine stop_range ?_ | refine stop_next ?_ | refine stop_convert ⟨_, rfl⟩ ?_ | refine stop_convertB ⟨_, _, _, rfl⟩ ?_ | refine stop_eqSlice ⟨_, _, rfl⟩ ?_)
  go_ret
  exact ⟨rfl, Chg.refl _ _⟩
set_option maxRecDepth 100000 in
set_option maxHeartbeats 1000000 in
theorem rcurrent_any (B p : Nat) (rows : List Rw) (w : World) (h : RegS w B p rows) (hi : RowsI rows) :
    Calls Try.prog 36 #[.pointer (some ⟨p, 0, none⟩)] w fun e w' => e = .returned (.int .i64 (firstR rows + (rows.length - 1 : Nat))) ∧ Chg No w w' := by
  obtain ⟨g, c, hc, -⟩ := rg_row h hi.1
  obtain ⟨vq, vs, vt, a0, -⟩ := rg_get h hc (rows.length - 1) (by have := hi.1; omega)
  rw [first_get hi (rows.length - 1) (by have := hi.1; omega)] at a0
  have h0 := hi.1
  have h64 := hi.2.1
  clear h hi
  generalize firstR rows = f at *
  obtain ⟨m, hm⟩ : ∃ m, m = rows.length - 1 := ⟨_, rfl⟩
  rw [← hm] at a0 ⊢
  generalize rows.length = n at *
  have hw : IntKind.i64.wrap ((n : Int) - 1) = (m : Int) := by rw [IntWalk.i64_in _ (by omega)]; omega
  have hw2 : (n : Int) - 1 = (m : Int) := by omega
  have hmn : m < n := by omega
  have hmn2 : (m : Int) < n := by omega
  clear hm h0
  go_enter Try.func36, Try.ntmps36
  go_wp2_with (with_reducible first | refine stop_append ?_ | refine stop_copy ?_ | refine stop_make ?_ | refine stop_lookup ?_ | refine stop_update ?_ | refine stop_slice ?_ | refine stop_range ?_ | refine stop_next ?_ | refine stop_convert ⟨_, rfl⟩ ?_ | refine stop_convertB ⟨_, _, _, rfl⟩ ?_ | refine stop_eqSlice ⟨_, _, rfl⟩ ?_)
  refine pl_start (fun W => W.cell? ⟨p, 0, none⟩ = some (.slice (some ⟨g, 0, none⟩) n c) ∧ W.cell? ⟨g, m * 5, none⟩ = some (.int .i64 (f + m)) ∧ Chg No w W) (by kernel_rfl) (by kernel_rfl) ⟨hc, a0, (Chg.refl No w).drew⟩ ?_
  ((refine pl_yes (i := 0) (oi := { dst := some 3, op := .move (.tmp 0), type := 65, pos := "register.go:57", after := #[], guard := none }) (v := ?_) rfl (by kernel_rfl) (by kernel_rfl) rfl ?_ ?_); rotate_left; focus (intro W hW; (try dsimp only at hW); go_split_ands; go_simp; (try (simp (disch := omega) only [IntWalk.i64_in]; (try go_simp))); (try (split; (next => omega); (try go_simp))); try rfl; done))
  try simp only [Act.put, List.setIfInBounds_toArray, List.set_cons_zero, List.set_cons_succ]
  ((refine pl_yes (i := 1) (oi := { dst := some 4, op := .nilCheck (.tmp 3), type := 0, pos := "register.go:57", after := #[{ on := 0, ground := .data }], guard := none }) (v := ?_) rfl (by kernel_rfl) (by kernel_rfl) rfl ?_ ?_); rotate_left; focus (intro W hW; (try dsimp only at hW); go_split_ands; go_simp; (try (simp (disch := omega) only [IntWalk.i64_in]; (try go_simp))); (try (split; (next => omega); (try go_simp))); try rfl; done))
  try simp only [Act.put, List.setIfInBounds_toArray, List.set_cons_zero, List.set_cons_succ]
  ((refine pl_yes (i := 2) (oi := { dst := some 5, op := .fieldAddr 137 (.tmp 4) 0, type := 0, pos := "register.go:57", after := #[{ on := 1, ground := .data }], guard := none }) (v := ?_) rfl (by kernel_rfl) (by kernel_rfl) rfl ?_ ?_); rotate_left; focus (intro W hW; (try dsimp only at hW); go_split_ands; go_simp; (try (simp (disch := omega) only [IntWalk.i64_in]; (try go_simp))); (try (split; (next => omega); (try go_simp))); try rfl; done))
  try simp only [Act.put, List.setIfInBounds_toArray, List.set_cons_zero, List.set_cons_succ]
  ((refine pl_yes (i := 3) (oi := { dst := some 6, op := .load 135 (.tmp 5), type := 135, pos := "register.go:57", after := #[{ on := 2, ground := .data }], guard := none }) (v := ?_) rfl (by kernel_rfl) (by kernel_rfl) rfl ?_ ?_); rotate_left; focus (intro W hW; (try dsimp only at hW); go_split_ands; go_simp; (try (simp (disch := omega) only [IntWalk.i64_in]; (try go_simp))); (try (split; (next => omega); (try go_simp))); try rfl; done))
  try simp only [Act.put, List.setIfInBounds_toArray, List.set_cons_zero, List.set_cons_succ]
  ((refine pl_yes (i := 4) (oi := { dst := some 7, op := .move (.tmp 0), type := 65, pos := "register.go:57", after := #[], guard := none }) (v := ?_) rfl (by kernel_rfl) (by kernel_rfl) rfl ?_ ?_); rotate_left; focus (intro W hW; (try dsimp only at hW); go_split_ands; go_simp; (try (simp (disch := omega) only [IntWalk.i64_in]; (try go_simp))); (try (split; (next => omega); (try go_simp))); try rfl; done))
  try simp only [Act.put, List.setIfInBounds_toArray, List.set_cons_zero, List.set_cons_succ]
  ((refine pl_yes (i := 5) (oi := { dst := some 8, op := .nilCheck (.tmp 7), type := 0, pos := "register.go:57", after := #[{ on := 4, ground := .data }], guard := none }) (v := ?_) rfl (by kernel_rfl) (by kernel_rfl) rfl ?_ ?_); rotate_left; focus (intro W hW; (try dsimp only at hW); go_split_ands; go_simp; (try (simp (disch := omega) only [IntWalk.i64_in]; (try go_simp))); (try (split; (next => omega); (try go_simp))); try rfl; done))
  try simp only [Act.put, List.setIfInBounds_toArray, List.set_cons_zero, List.set_cons_succ]
  ((refine pl_yes (i := 6) (oi := { dst := some 9, op := .fieldAddr 137 (.tmp 8) 0, type := 0, pos := "register.go:57", after := #[{ on := 5, ground := .data }], guard := none }) (v := ?_) rfl (by kernel_rfl) (by kernel_rfl) rfl ?_ ?_); rotate_left; focus (intro W hW; (try dsimp only at hW); go_split_ands; go_simp; (try (simp (disch := omega) only [IntWalk.i64_in]; (try go_simp))); (try (split; (next => omega); (try go_simp))); try rfl; done))
  try simp only [Act.put, List.setIfInBounds_toArray, List.set_cons_zero, List.set_cons_succ]
  ((refine pl_yes (i := 7) (oi := { dst := some 10, op := .load 135 (.tmp 9), type := 135, pos := "register.go:57", after := #[{ on := 6, ground := .data }], guard := none }) (v := ?_) rfl (by kernel_rfl) (by kernel_rfl) rfl ?_ ?_); rotate_left; focus (intro W hW; (try dsimp only at hW); go_split_ands; go_simp; (try (simp (disch := omega) only [IntWalk.i64_in]; (try go_simp))); (try (split; (next => omega); (try go_simp))); try rfl; done))
  try simp only [Act.put, List.setIfInBounds_toArray, List.set_cons_zero, List.set_cons_succ]
  ((refine pl_yes (i := 8) (oi := { dst := some 11, op := .call { callee := .builtin .len, args := #[.tmp 10], argTypes := #[135] }, type := 3, pos := "register.go:57", after := #[{ on := 7, ground := .data }], guard := none }) (v := ?_) rfl (by kernel_rfl) (by kernel_rfl) rfl ?_ ?_); rotate_left; focus (intro W hW; (try dsimp only at hW); go_split_ands; go_simp; (try (simp (disch := omega) only [IntWalk.i64_in]; (try go_simp))); (try (split; (next => omega); (try go_simp))); try rfl; done))
  try simp only [Act.put, List.setIfInBounds_toArray, List.set_cons_zero, List.set_cons_succ]
  ((refine pl_yes (i := 9) (oi := { dst := some 12, op := .binOp .sub 3 (.tmp 11) (.const (.int .i64 1)) 3, type := 3, pos := "register.go:57", after := #[{ on := 8, ground := .data }], guard := none }) (v := ?_) rfl (by kernel_rfl) (by kernel_rfl) rfl ?_ ?_); rotate_left; focus (intro W hW; (try dsimp only at hW); go_split_ands; go_simp; (try (simp (disch := omega) only [IntWalk.i64_in]; (try go_simp))); (try (split; (next => omega); (try go_simp))); try rfl; done))
  try simp only [Act.put, List.setIfInBounds_toArray, List.set_cons_zero, List.set_cons_succ]
  ((refine pl_yes (i := 10) (oi := { dst := some 13, op := .indexAddr 135 (.tmp 6) (.tmp 12), type := 0, pos := "register.go:57", after := #[{ on := 3, ground := .data }, { on := 9, ground := .data }], guard := none }) (v := ?_) rfl (by kernel_rfl) (by kernel_rfl) rfl ?_ ?_); rotate_left; focus (intro W hW; (try dsimp only at hW); go_split_ands; go_simp; (try (simp (disch := omega) only [IntWalk.i64_in]; (try go_simp))); (try (split; (next => omega); (try go_simp))); try rfl; done))
  try simp only [Act.put, List.setIfInBounds_toArray, List.set_cons_zero, List.set_cons_succ]
  ((refine pl_yes (i := 11) (oi := { dst := some 14, op := .fieldAddr 88 (.tmp 13) 0, type := 0, pos := "register.go:57", after := #[{ on := 10, ground := .data }], guard := none }) (v := ?_) rfl (by kernel_rfl) (by kernel_rfl) rfl ?_ ?_); rotate_left; focus (intro W hW; (try dsimp only at hW); go_split_ands; go_simp; (try (simp (disch := omega) only [IntWalk.i64_in]; (try go_simp))); (try (split; (next => omega); (try go_simp))); try rfl; done))
  try simp only [Act.put, List.setIfInBounds_toArray, List.set_cons_zero, List.set_cons_succ]
  ((refine pl_yes (i := 12) (oi := { dst := some 15, op := .fieldAddr 68 (.tmp 14) 0, type := 0, pos := "register.go:57", after := #[{ on := 11, ground := .data }], guard := none }) (v := ?_) rfl (by kernel_rfl) (by kernel_rfl) rfl ?_ ?_); rotate_left; focus (intro W hW; (try dsimp only at hW); go_split_ands; go_simp; (try (simp (disch := omega) only [IntWalk.i64_in]; (try go_simp))); (try (split; (next => omega); (try go_simp))); try rfl; done))
  try simp only [Act.put, List.setIfInBounds_toArray, List.set_cons_zero, List.set_cons_succ]
  ((refine pl_yes (i := 13) (oi := { dst := some 16, op := .load 3 (.tmp 15), type := 3, pos := "register.go:57", after := #[{ on := 12, ground := .data }], guard := none }) (v := ?_) rfl (by kernel_rfl) (by kernel_rfl) rfl ?_ ?_); rotate_left; focus (intro W hW; (try dsimp only at hW); go_split_ands; go_simp; (try (simp (disch := omega) only [IntWalk.i64_in]; (try go_simp))); (try (split; (next => omega); (try go_simp))); try rfl; done))
  try simp only [Act.put, List.setIfInBounds_toArray, List.set_cons_zero, List.set_cons_succ]
  ((refine pl_yes (i := 14) (oi := { dst := some 2, op := .assign (.tmp 16), type := 3, pos := "register.go:57", after := #[{ on := 13, ground := .data }, { on := 0, ground := .phase }, { on := 1, ground := .phase }, { on := 2, ground := .phase }, { on := 3, ground := .phase }, { on := 4, ground := .phase }, { on := 5, ground := .phase }, { on := 6, ground := .phase }, { on := 7, ground := .phase }, { on := 8, ground := .phase }, { on := 9, ground := .phase }, { on := 10, ground := .phase }, { on := 11, ground := .phase }, { on := 12, ground := .phase }, { on := 13, ground := .phase }], guard := none }) (v := ?_) rfl (by kernel_rfl) (by kernel_rfl) rfl ?_ ?_); rotate_left; focus (intro W hW; (try dsimp only at hW); go_split_ands; go_simp; (try (simp (disch := omega) only [IntWalk.i64_in]; (try go_simp))); (try (split; (next => omega); (try go_simp))); try rfl; done))
  try simp only [Act.put, List.setIfInBounds_toArray, List.set_cons_zero, List.set_cons_succ]
  refine pl_done (by kernel_rfl)  ?_
  rintro w2 ⟨_, _, hc2⟩
  go_wp2_with (with_reducible first | refine stop_append ?_ | refine stop_copy ?_ | refine stop_make ?_ | refine stop_lookup ?_ | refine stop_update ?_ | refine stop_slice ?_ | refine stop_range ?_ | refine stop_next ?_ | refine stop_convert ⟨_, rfl⟩ ?_ | refine stop_convertB ⟨_, _, _, rfl⟩ ?_ | refine stop_eqSlice ⟨_, _, rfl⟩ ?_)
  go_ret
  exact ⟨rfl, hc2⟩
set_option maxRecDepth 100000 in
set_option maxHeartbeats 1000000 in
theorem rat_yes (B p : Nat) (rows : List Rw) (w : World) (h : RegS w B p rows) (hi : RowsI rows) {g n c : Nat} (hc : w.cell? ⟨p, 0, none⟩ = some (.slice (some ⟨g, 0, none⟩) n c)) (hn : n = rows.length) (i : Nat) (hlt : i < rows.length) :
    Calls Try.prog 69 #[.pointer (some ⟨p, 0, none⟩), .int .i64 (firstR rows + i)] w fun e w' => e = .returned (.pointer (some ⟨g, i * 5, none⟩)) ∧ Chg No w w' := by
  subst hn
  have Hf := Lib.hid (fun W (hW : Chg No w W) => rfirst_any B p rows W (h.keepNo hW) hi)
  have Hcur := Lib.hid (fun W (hW : Chg No w W) => rcurrent_any B p rows W (h.keepNo hW) hi)
  obtain ⟨hb1, hb2⟩ := first_bound hi
  have h64 := hi.2.1
  clear h hi
  generalize firstR rows = f at *
  obtain ⟨t, ht⟩ : ∃ t, t = f + i := ⟨_, rfl⟩
  obtain ⟨l, hl⟩ : ∃ l, l = f + (rows.length - 1 : Nat) := ⟨_, rfl⟩
  rw [← hl] at Hcur
  rw [← ht]
  have k1 : ¬ t < f := by omega
  have k2 : ¬ l < t := by omega
  have hw : IntKind.i64.wrap (t - f) = (i : Int) := by rw [ht]; rw [IntWalk.i64_in _ (by omega)]; omega
  have hw2 : t - f = (i : Int) := by omega
  clear hb1 hb2 ht hl
  go_enter Try.func69, Try.ntmps69
  go_wp2_with (with_reducible first | refine stop_append ?_ | refine stop_copy ?_ | refine stop_make ?_ | refine stop_lookup ?_ | refine stop_update ?_ | refine stop_slice ?_ | refine stop_range ?_ | refine stop_next ?_ | refine stop_convert ⟨_, rfl⟩ ?_ | refine stop_convertB ⟨_, _, _, rfl⟩ ?_ | refine stop_eqSlice ⟨_, _, rfl⟩ ?_)
  refine (Hf.out _ (Chg.refl _ _)).mono ?_
  rintro e w1 ⟨rfl, hc1⟩
  go_wp2_with (with_reducible first | refine stop_append ?_ | refine stop_copy ?_ | refine stop_make ?_ | refine stop_lookup ?_ | refine stop_update ?_ | refine stop_slice ?_ | refine stop_range ?_ | refine stop_next ?_ | refine stop_convert ⟨_, rfl⟩ ?_ | refine stop_convertB ⟨_, _, _, rfl⟩ ?_ | refine stop_eqSlice ⟨_, _, rfl⟩ ?_)
  refine (Hcur.out _ hc1).mono ?_
  rintro e w2 ⟨rfl, hc2⟩
  have hcw := hc1.trans hc2
  go_wp2_with (with_reducible first | refine stop_append ?_ | refine stop_copy ?_ | refine stop_make ?_ | refine stop_lookup ?_ | refine stop_update ?_ | refine stop_slice ?_ | refine stop_range ?_ | refine stop_next ?_ | refine stop_convert ⟨_, rfl⟩ ?_ | refine stop_convertB ⟨_, _, _, rfl⟩ ?_ | refine stop_eqSlice ⟨_, _, rfl⟩ ?_)
  refine pl_start (fun W => W.cell? ⟨p, 0, none⟩ = some (.slice (some ⟨g, 0, none⟩) rows.length c) ∧ Chg No w W) (by kernel_rfl) (by kernel_rfl) ⟨hcw.cell hc (not_no _), hcw.drew⟩ ?_
  ((refine pl_yes (i := 0) (oi := { dst := some 15, op := .move (.tmp 0), type := 65, pos := "register.go:64", after := #[], guard := none }) (v := ?_) rfl (by kernel_rfl) (by kernel_rfl) rfl ?_ ?_); rotate_left; focus (intro W hW; (try dsimp only at hW); go_split_ands; go_simp; (try (simp (disch := omega) only [IntWalk.i64_in]; (try go_simp))); (try (split; (next => omega); (try go_simp))); try rfl; done))
  try simp only [Act.put, List.setIfInBounds_toArray, List.set_cons_zero, List.set_cons_succ]
  ((refine pl_yes (i := 1) (oi := { dst := some 16, op := .nilCheck (.tmp 15), type := 0, pos := "register.go:64", after := #[{ on := 0, ground := .data }], guard := none }) (v := ?_) rfl (by kernel_rfl) (by kernel_rfl) rfl ?_ ?_); rotate_left; focus (intro W hW; (try dsimp only at hW); go_split_ands; go_simp; (try (simp (disch := omega) only [IntWalk.i64_in]; (try go_simp))); (try (split; (next => omega); (try go_simp))); try rfl; done))
  try simp only [Act.put, List.setIfInBounds_toArray, List.set_cons_zero, List.set_cons_succ]
  ((refine pl_yes (i := 2) (oi := { dst := some 17, op := .fieldAddr 137 (.tmp 16) 0, type := 0, pos := "register.go:64", after := #[{ on := 1, ground := .data }], guard := none }) (v := ?_) rfl (by kernel_rfl) (by kernel_rfl) rfl ?_ ?_); rotate_left; focus (intro W hW; (try dsimp only at hW); go_split_ands; go_simp; (try (simp (disch := omega) only [IntWalk.i64_in]; (try go_simp))); (try (split; (next => omega); (try go_simp))); try rfl; done))
  try simp only [Act.put, List.setIfInBounds_toArray, List.set_cons_zero, List.set_cons_succ]
  ((refine pl_yes (i := 3) (oi := { dst := some 18, op := .load 135 (.tmp 17), type := 135, pos := "register.go:64", after := #[{ on := 2, ground := .data }], guard := none }) (v := ?_) rfl (by kernel_rfl) (by kernel_rfl) rfl ?_ ?_); rotate_left; focus (intro W hW; (try dsimp only at hW); go_split_ands; go_simp; (try (simp (disch := omega) only [IntWalk.i64_in]; (try go_simp))); (try (split; (next => omega); (try go_simp))); try rfl; done))
  try simp only [Act.put, List.setIfInBounds_toArray, List.set_cons_zero, List.set_cons_succ]
  ((refine pl_yes (i := 4) (oi := { dst := some 19, op := .move (.tmp 1), type := 3, pos := "register.go:64", after := #[], guard := none }) (v := ?_) rfl (by kernel_rfl) (by kernel_rfl) rfl ?_ ?_); rotate_left; focus (intro W hW; (try dsimp only at hW); go_split_ands; go_simp; (try (simp (disch := omega) only [IntWalk.i64_in]; (try go_simp))); (try (split; (next => omega); (try go_simp))); try rfl; done))
  try simp only [Act.put, List.setIfInBounds_toArray, List.set_cons_zero, List.set_cons_succ]
  ((refine pl_yes (i := 5) (oi := { dst := some 20, op := .move (.tmp 0), type := 65, pos := "register.go:64", after := #[], guard := none }) (v := ?_) rfl (by kernel_rfl) (by kernel_rfl) rfl ?_ ?_); rotate_left; focus (intro W hW; (try dsimp only at hW); go_split_ands; go_simp; (try (simp (disch := omega) only [IntWalk.i64_in]; (try go_simp))); (try (split; (next => omega); (try go_simp))); try rfl; done))
  try simp only [Act.put, List.setIfInBounds_toArray, List.set_cons_zero, List.set_cons_succ]
  refine pl_call (i := 6) (oi := { dst := some 21, op := .call { callee := .value (.func 35), args := #[.tmp 20], argTypes := #[65] }, type := 3, pos := "register.go:64", after := #[{ on := 5, ground := .data }], guard := none }) (.int .i64 f) rfl (by kernel_rfl) (by kernel_rfl) rfl (by exact (fun W hW => (Hf.out W hW.2).mono fun e w' h => ⟨h.1, h.2.cell hW.1 (not_no _), hW.2.trans h.2⟩)) (fun W => by kernel_rfl) ?_
  try simp only [Act.put, List.setIfInBounds_toArray, List.set_cons_zero, List.set_cons_succ]
  ((refine pl_yes (i := 7) (oi := { dst := some 22, op := .binOp .sub 3 (.tmp 19) (.tmp 21) 3, type := 3, pos := "register.go:64", after := #[{ on := 4, ground := .data }, { on := 6, ground := .data }], guard := none }) (v := ?_) rfl (by kernel_rfl) (by kernel_rfl) rfl ?_ ?_); rotate_left; focus (intro W hW; (try dsimp only at hW); go_split_ands; go_simp; (try (simp (disch := omega) only [IntWalk.i64_in]; (try go_simp))); (try (split; (next => omega); (try go_simp))); try rfl; done))
  try simp only [Act.put, List.setIfInBounds_toArray, List.set_cons_zero, List.set_cons_succ]
  ((refine pl_yes (i := 8) (oi := { dst := some 23, op := .indexAddr 135 (.tmp 18) (.tmp 22), type := 0, pos := "register.go:64", after := #[{ on := 3, ground := .data }, { on := 7, ground := .data }], guard := none }) (v := ?_) rfl (by kernel_rfl) (by kernel_rfl) rfl ?_ ?_); rotate_left; focus (intro W hW; (try dsimp only at hW); go_split_ands; go_simp; (try (simp (disch := omega) only [IntWalk.i64_in]; (try go_simp))); (try (split; (next => omega); (try go_simp))); try rfl; done))
  try simp only [Act.put, List.setIfInBounds_toArray, List.set_cons_zero, List.set_cons_succ]
  ((refine pl_yes (i := 9) (oi := { dst := some 4, op := .assign (.tmp 23), type := 139, pos := "register.go:64", after := #[{ on := 8, ground := .data }, { on := 6, ground := .chain }, { on := 0, ground := .phase }, { on := 1, ground := .phase }, { on := 2, ground := .phase }, { on := 3, ground := .phase }, { on := 4, ground := .phase }, { on := 5, ground := .phase }, { on := 6, ground := .phase }, { on := 7, ground := .phase }, { on := 8, ground := .phase }], guard := none }) (v := ?_) rfl (by kernel_rfl) (by kernel_rfl) rfl ?_ ?_); rotate_left; focus (intro W hW; (try dsimp only at hW); go_split_ands; go_simp; (try (simp (disch := omega) only [IntWalk.i64_in]; (try go_simp))); (try (split; (next => omega); (try go_simp))); try rfl; done))
  try simp only [Act.put, List.setIfInBounds_toArray, List.set_cons_zero, List.set_cons_succ]
  refine pl_done (by kernel_rfl)  ?_
  rintro w4 ⟨_, hc4⟩
  go_wp2_with (with_reducible first | refine stop_append ?_ | refine stop_copy ?_ | refine stop_make ?_ | refine stop_lookup ?_ | refine stop_update ?_ | refine stop_slice ?_ | refine stop_range ?_ | refine stop_next ?_ | refine stop_convert ⟨_, rfl⟩ ?_ | refine stop_convertB ⟨_, _, _, rfl⟩ ?_ | refine stop_eqSlice ⟨_, _, rfl⟩ ?_)
  go_ret
  exact ⟨rfl, hc4⟩
set_option maxRecDepth 100000 in
set_option maxHeartbeats 1000000 in
theorem rat_no (B p : Nat) (rows : List Rw) (w : World) (h : RegS w B p rows) (hi : RowsI rows) (t : Int) (ht : t < firstR rows ∨ firstR rows + (rows.length - 1 : Nat) < t) :
    Calls Try.prog 69 #[.pointer (some ⟨p, 0, none⟩), .int .i64 t] w fun e w' => e = .returned (.pointer none) ∧ Chg No w w' := by
  have Hf := Lib.hid (fun W (hW : Chg No w W) => rfirst_any B p rows W (h.keepNo hW) hi)
  have Hcur := Lib.hid (fun W (hW : Chg No w W) => rcurrent_any B p rows W (h.keepNo hW) hi)
  clear h hi
  generalize firstR rows = f at *
  generalize f + (rows.length - 1 : Nat) = l at *
  by_cases k1 : t < f
  · clear ht
    go_enter Try.func69, Try.ntmps69
    go_wp2_with (with_reducible first | refine stop_append ?_ | refine stop_copy ?_ | refine stop_make ?_ | refine stop_lookup ?_ | refine stop_update ?_ | refine stop_slice ?_ | refine stop_range ?_ | refine stop_next ?_ | refine stop_convert ⟨_, rfl⟩ ?_ | refine stop_convertB ⟨_, _, _, rfl⟩ ?_ | refine stop_eqSlice ⟨_, _, rfl⟩ ?_)
    refine (Hf.out _ (Chg.refl _ _)).mono ?_
    rintro e w1 ⟨rfl, hc1⟩
    go_wp2_with (with_reducible first | refine stop_append ?_ | refine stop_copy ?_ | refine stop_make ?_ | refine stop_lookup ?_ | refine stop_update ?_ | refine stop_slice ?_ | refine stop_range ?_ | refine stop_next ?_ | refine stop_convert ⟨_, rfl⟩ ?_ | refine stop_convertB ⟨_, _, _, rfl⟩ ?_ | refine stop_eqSlice ⟨_, _, rfl⟩ ?_)
    go_ret
    exact ⟨rfl, hc1⟩
  · have k2 : l < t := by omega
    clear ht
    go_enter Try.func69, Try.ntmps69
    go_wp2_with (with_reducible first | refine stop_append ?_ | refine stop_copy ?_ | refine stop_make ?_ | refine stop_lookup ?_ | refine stop_update ?_ | refine stop_slice ?_ | refine stop_range ?_ | refine stop_next ?_ | refine stop_convert ⟨_, rfl⟩ ?_ | refine stop_convertB ⟨_, _, _, rfl⟩ ?_ | refine stop_eqSlice ⟨_, _, rfl⟩ ?_)
    refine (Hf.out _ (Chg.refl _ _)).mono ?_
    rintro e w1 ⟨rfl, hc1⟩
    go_wp2_with (with_reducible first | refine stop_append ?_ | refine stop_copy ?_ | refine stop_make ?_ | refine stop_lookup ?_ | refine stop_update ?_ | refine stop_slice ?_ | refine stop_range ?_ | refine stop_next ?_ | refine stop_convert ⟨_, rfl⟩ ?_ | refine stop_convertB ⟨_, _, _, rfl⟩ ?_ | refine stop_eqSlice ⟨_, _, rfl⟩ ?_)
    refine (Hcur.out _ hc1).mono ?_
    rintro e w2 ⟨rfl, hc2⟩
    go_wp2_with (with_reducible first | refine stop_append ?_ | refine stop_copy ?_ | refine stop_make ?_ | refine stop_lookup ?_ | refine stop_update ?_ | refine stop_slice ?_ | refine stop_range ?_ | refine stop_next ?_ | refine stop_convert ⟨_, rfl⟩ ?_ | refine stop_convertB ⟨_, _, _, rfl⟩ ?_ | refine stop_eqSlice ⟨_, _, rfl⟩ ?_)
    go_ret
    exact ⟨rfl, hc1.trans hc2⟩
end Go.Proofs.Ytbjpoamnglfjeaa


/- Walks of package register: Row. -/
set_option linter.unusedVariables false
set_option linter.unusedSimpArgs false
namespace Go.Proofs.Ytbjpoamnglfjeaa
open Go.RowKit Cb

theorem right_small {t : Int} {q : List Int} {s : List (List Int)} (hr : rightC t q s = true) : q.length ≤ 7 ∧ s.length ≤ 8 ∧ ∀ x ∈ s, x.length ≤ 3 := by
  obtain ⟨_, ⟨_, h7⟩, ⟨_, h8⟩, _, hall⟩ := rightC_iff.1 hr
  refine ⟨h7, h8, fun x hx => ?_⟩
  have := hall x hx
  simp only [shardB, Bool.and_eq_true, decide_eq_true_eq] at this
  exact this.1.2
set_option maxRecDepth 100000 in
set_option maxHeartbeats 1000000 in
theorem rrow_no (B p : Nat) (rows : List Rw) (w : World) (h : RegS w B p rows) (hi : RowsI rows) (t : Int) (ht : t < firstR rows ∨ firstR rows + (rows.length - 1 : Nat) < t) :
    Calls Try.prog 43 #[.pointer (some ⟨p, 0, none⟩), .int .i64 t] w fun e w' => e = .returned (.tuple #[.agg #[.int .i64 0, .slice none 0 0, .slice none 0 0, .slice none 0 0, .bool false], .int .i64 141]) ∧ Chg No w w' := by
  have Hat := Lib.hid (fun W (hW : Chg No w W) => rat_no B p rows W (h.keepNo hW) hi t ht)
  clear h hi ht
  have o4 := alloc_obj w (.cells #[.int .i64 0, .slice none 0 0, .slice none 0 0, .slice none 0 0, .bool false] 88)
  have hca := (Chg.refl No w).alloc (.cells #[.int .i64 0, .slice none 0 0, .slice none 0 0, .slice none 0 0, .bool false] 88)
  go_enter Try.func43, Try.ntmps43
  go_wp2_with (with_reducible first | refine stop_append ?_ | refine stop_copy ?_ | refine stop_make ?_ | refine stop_lookup ?_ | refine stop_update ?_ | refine stop_slice ?_ | refine stop_range ?_ | refine stop_next ?_ | refine stop_convert ⟨_, rfl⟩ ?_ | refine stop_convertB ⟨_, _, _, rfl⟩ ?_ | refine stop_eqSlice ⟨_, _, rfl⟩ ?_)
  generalize w.alloc (.cells #[.int .i64 0, .slice none 0 0, .slice none 0 0, .slice none 0 0, .bool false] 88) = w0 at *
  obtain ⟨q4, hq4⟩ : ∃ p, p = w.heap.size := ⟨_, rfl⟩
  rw [← hq4] at o4 ⊢
  have hge : w.heap.size ≤ q4 := by omega
  clear hq4
  refine (Hat.out _ hca).mono ?_
  rintro e w1 ⟨rfl, hc1⟩
  have o41 := hc1.obj o4 (not_no _)
  have hcw := hca.trans hc1
  clear o4 hc1 hca
  have z0 := cell_obj (i := 0) o41 rfl
  have z1 := cell_obj (i := 1) o41 rfl
  have z2 := cell_obj (i := 2) o41 rfl
  have z3 := cell_obj (i := 3) o41 rfl
  have z4 := cell_obj (i := 4) o41 rfl
  have f0 := free_obj (i := 0) o41
  have f1 := free_obj (i := 1) o41
  have f2 := free_obj (i := 2) o41
  have f3 := free_obj (i := 3) o41
  have f4 := free_obj (i := 4) o41
  go_wp2_with (with_reducible first | refine stop_append ?_ | refine stop_copy ?_ | refine stop_make ?_ | refine stop_lookup ?_ | refine stop_update ?_ | refine stop_slice ?_ | refine stop_range ?_ | refine stop_next ?_ | refine stop_convert ⟨_, rfl⟩ ?_ | refine stop_convertB ⟨_, _, _, rfl⟩ ?_ | refine stop_eqSlice ⟨_, _, rfl⟩ ?_)
  refine bodyPost_ret (v := .tuple #[.agg #[.int .i64 0, .slice none 0 0, .slice none 0 0, .slice none 0 0, .bool false], .int .i64 141]) (by simp [results, Try.results43, go_sem, *]) rfl ?_
  refine ⟨rfl, ?_⟩
  repeat (first | exact hcw | refine Chg.setCell ?_ (.inr hge) _)
set_option maxRecDepth 100000 in
set_option maxHeartbeats 1000000 in
theorem rrow_yes (B p : Nat) (rows : List Rw) (w : World) (h : RegS w B p rows) (hi : RowsI rows) (i : Nat) (hlt : i < rows.length) :
    Calls Try.prog 43 #[.pointer (some ⟨p, 0, none⟩), .int .i64 (firstR rows + i)] w fun e w' => ∃ vq vs vt, e = .returned (.tuple #[.agg #[.int .i64 (firstR rows + i), vq, vs, vt, .bool rows[i].2.2.2.2], .int .i64 0]) ∧ Chg No w w' ∧
      Sl (Lt w.heap.size) w' vq rows[i].2.1 ∧ Sl (Lt w.heap.size) w' vs rows[i].2.2.1 ∧ Sl (Lt w.heap.size) w' vt rows[i].2.2.2.1 := by
  obtain ⟨g, c, hc, -, -, hgl⟩ := rg_row h hi.1
  have Hat := Lib.hid (fun W (hW : Chg No w W) => rat_yes B p rows W (h.keepNo hW) hi (hW.cell hc (not_no _)) rfl i hlt)
  obtain ⟨vq, vs, vt, a0, a1, a2, a3, a4, hsq, hss, hst⟩ := rg_get h hc i hlt
  have ht := first_get hi i hlt
  obtain ⟨-, hr, htl, hte⟩ := hi.2.2 i hlt
  obtain ⟨h7, h8, h3⟩ := right_small hr
  rw [← ht] at Hat
  rw [← ht]
  have Hown := Lib.hid (fun W (hW : Chg No w W) => own_any rows[i].1 vq vs vt rows[i].2.2.2.2 _ _ _ W (hsq.no.keepNo hW) (hss.no.keepNo hW) (hst.no.keepNo hW) (by omega) (by omega) (fun x hx => by have := h3 x hx; omega) htl hte)
  unfold rowV at Hown
  clear ht hr htl hte h7 h8 h3 h hi hc
  obtain ⟨Aq, cq, rfl⟩ := hsq.slice
  obtain ⟨As, cs, rfl⟩ := hss.slice
  obtain ⟨Al, cl, rfl⟩ := hst.slice
  clear hsq hss hst
  generalize rows[i] = r at *
  obtain ⟨t, q, s, l, ov⟩ := r
  simp only at *
  have o4 := alloc_obj w (.cells #[.int .i64 0, .slice none 0 0, .slice none 0 0, .slice none 0 0, .bool false] 88)
  have hca := (Chg.refl No w).alloc (.cells #[.int .i64 0, .slice none 0 0, .slice none 0 0, .slice none 0 0, .bool false] 88)
  go_enter Try.func43, Try.ntmps43
  go_wp2_with (with_reducible first | refine stop_append ?_ | refine stop_copy ?_ | refine stop_make ?_ | refine stop_lookup ?_ | refine stop_update ?_ | refine stop_slice ?_ | refine stop_range ?_ | refine stop_next ?_ | refine stop_convert ⟨_, rfl⟩ ?_ | refine stop_convertB ⟨_, _, _, rfl⟩ ?_ | refine stop_eqSlice ⟨_, _, rfl⟩ ?_)
  generalize w.alloc (.cells #[.int .i64 0, .slice none 0 0, .slice none 0 0, .slice none 0 0, .bool false] 88) = w0 at *
  obtain ⟨q4, hq4⟩ : ∃ p, p = w.heap.size := ⟨_, rfl⟩
  rw [← hq4] at o4 ⊢
  have hge : w.heap.size ≤ q4 := by omega
  clear hq4
  refine (Hat.out _ hca).mono ?_
  rintro e w1 ⟨rfl, hc1⟩
  have o41 := hc1.obj o4 (not_no _)
  have hcw := hca.trans hc1
  clear o4 hc1 hca
  replace a0 := hcw.cell a0 (not_no _)
  replace a1 := hcw.cell a1 (not_no _)
  replace a2 := hcw.cell a2 (not_no _)
  replace a3 := hcw.cell a3 (not_no _)
  replace a4 := hcw.cell a4 (not_no _)
  go_wp2_with (with_reducible first | refine stop_append ?_ | refine stop_copy ?_ | refine stop_make ?_ | refine stop_lookup ?_ | refine stop_update ?_ | refine stop_slice ?_ | refine stop_range ?_ | refine stop_next ?_ | refine stop_convert ⟨_, rfl⟩ ?_ | refine stop_convertB ⟨_, _, _, rfl⟩ ?_ | refine stop_eqSlice ⟨_, _, rfl⟩ ?_)
  refine (Hown.out _ hcw).mono ?_
  rintro e w2 ⟨vq', vs', vt', rfl, hc2, hq2, hs2, ht2⟩
  obtain ⟨Bq, dq, rfl⟩ := hq2.slice
  obtain ⟨Bs, ds, rfl⟩ := hs2.slice
  obtain ⟨Bt, dt, rfl⟩ := ht2.slice
  have hql := lt_of_heap o41
  have o42 := hc2.obj o41 (not_no _)
  have hcw2 := hcw.trans hc2
  have hw1 := hcw.size
  clear a0 a1 a2 a3 a4 o41 hc2
  have z0 := cell_obj (i := 0) o42 rfl
  have z1 := cell_obj (i := 1) o42 rfl
  have z2 := cell_obj (i := 2) o42 rfl
  have z3 := cell_obj (i := 3) o42 rfl
  have z4 := cell_obj (i := 4) o42 rfl
  have f0 := free_obj (i := 0) o42
  have f1 := free_obj (i := 1) o42
  have f2 := free_obj (i := 2) o42
  have f3 := free_obj (i := 3) o42
  have f4 := free_obj (i := 4) o42
  have Hq2 := Lib.hid hq2; have Hs2 := Lib.hid hs2; have Ht2 := Lib.hid ht2
  clear hq2 hs2 ht2
  go_wp2_with (with_reducible first | refine stop_append ?_ | refine stop_copy ?_ | refine stop_make ?_ | refine stop_lookup ?_ | refine stop_update ?_ | refine stop_slice ?_ | refine stop_range ?_ | refine stop_next ?_ | refine stop_convert ⟨_, rfl⟩ ?_ | refine stop_convertB ⟨_, _, _, rfl⟩ ?_ | refine stop_eqSlice ⟨_, _, rfl⟩ ?_)
  refine bodyPost_ret (v := .tuple #[.agg #[.int .i64 t, .slice Bq q.length dq, .slice Bs s.length ds, .slice Bt l.length dt, .bool ov], .int .i64 0]) (by simp [results, Try.results43, go_sem, *]) rfl ?_
  obtain ⟨o9, hc9⟩ := set5 o42 (.int .i64 t) (.slice Bq q.length dq) (.slice Bs s.length ds) (.slice Bt l.length dt) (.bool ov)
  have hk : ∀ i, i < w2.heap.size → At q4 i → Lt w1.heap.size i := fun i _ h => by simp only [At] at h; simp only [Lt]; omega
  have hk2 : ∀ i, Lt w.heap.size i → Lt w1.heap.size i := fun i h => by simp only [Lt] at *; omega
  exact ⟨_, _, _, rfl, hcw2.old hc9 (fun i h => by simp only [At] at h; omega), (Hq2.out.keep (hc9.weak hk)).weak (fun i _ h => hk2 i h), (Hs2.out.keep (hc9.weak hk)).weak (fun i _ h => hk2 i h), (Ht2.out.keep (hc9.weak hk)).weak (fun i _ h => hk2 i h)⟩
end Go.Proofs.Ytbjpoamnglfjeaa


/- Walks of package register: many. -/
set_option linter.unusedVariables false
set_option linter.unusedSimpArgs false
namespace Go.Proofs.Ytbjpoamnglfjeaa
open Go.RowKit Cb

theorem lastF_len (l : List Ent) (n : Nat) (hn : n ≤ 8) (hb : ∀ e ∈ l, e.2.2.1.length ≤ 1000000) : (lastF l n).length ≤ 1000000 := by
  unfold lastF
  have : ∀ (ls : List Ent) (z : List Int), (∀ e ∈ ls, e.2.2.1.length ≤ 1000000) → z.length ≤ 1000000 → (ls.foldl lastE z).length ≤ 1000000 := by
    intro ls
    induction ls with
    | nil => intro z _ hz; exact hz
    | cons e r ih =>
      intro z h hz
      refine ih _ (fun x hx => h x (List.mem_cons_of_mem _ hx)) ?_
      unfold lastE
      split
      · exact h e (List.mem_cons_self ..)
      · exact hz
  exact this _ _ (fun e he => hb e (List.mem_of_mem_take he)) (by simp; omega)
set_option maxRecDepth 100000 in
set_option maxHeartbeats 1000000 in
theorem many_any (g o n cs : Nat) (vt As : Value) (l : List Ent) (A : Option Addr) (w : World) (hs : w.cell? ⟨g, o + 2, none⟩ = some (.slice A n cs)) (ht : w.cell? ⟨g, o + 3, none⟩ = some vt) (hsl : Sl No w vt l) (hl : l.length ≤ 2199023255488) (hb : ∀ e ∈ l, e.2.2.1.length ≤ 1000000) (h1 : 1 ≤ n) (h8 : n ≤ 8) :
    Calls Try.prog 73 #[.pointer (some ⟨g, o, none⟩)] w fun e w' => e = .returned (.int .i64 (total (lastF l n))) ∧ Chg No w w' := by
  have Hlast := Lib.hid (fun W (hW : Chg No w W) => last_any vt l n W (hsl.keepNo hW) hl hb h1 h8)
  have hll := lastF_len l n h8 hb
  obtain ⟨Al, cl, rfl⟩ := hsl.slice
  clear hsl hb
  generalize lastF l n = R at *
  go_enter Try.func73, Try.ntmps73
  go_wp2_with (with_reducible first | refine stop_append ?_ | refine stop_copy ?_ | refine stop_make ?_ | refine stop_lookup ?_ | refine stop_update ?_ | refine stop_slice ?_ | refine stop_range ?_ | refine stop_next ?_ | refine stop_convert ⟨_, rfl⟩ ?_ | refine stop_convertB ⟨_, _, _, rfl⟩ ?_ | refine stop_eqSlice ⟨_, _, rfl⟩ ?_)
  have HS := Lib.hid (show ∀ W, Chg No w W → (fun W => W.cell? ⟨g, o + 2, none⟩ = some (.slice A n cs) ∧ W.cell? ⟨g, o + 3, none⟩ = some (.slice Al l.length cl)) W from fun W hW => ⟨hW.cell hs (not_no _), hW.cell ht (not_no _)⟩)
  have cd := (Chg.refl No w).drew
  refine rt_start (fun W => W.cell? ⟨g, o + 2, none⟩ = some (.slice A n cs) ∧ W.cell? ⟨g, o + 3, none⟩ = some (.slice Al l.length cl)) (by kernel_rfl) ?_
  ((refine rt_yes (i := 0) (oi := { dst := some 3, op := .move (.tmp 0), type := 139, pos := "register.go:103", after := #[], guard := none }) (v := ?_) rfl (by kernel_rfl) (by kernel_rfl) (by kernel_rfl) (fun _ _ _ h => h) rfl ?_ ?_); rotate_left; focus (intro W hW; (try dsimp only at hW); go_split_ands; go_simp; (try (simp (disch := omega) only [IntWalk.i64_in]; (try go_simp))); (try (split; (next => omega); (try go_simp))); try rfl; done))
  try simp only [Act.put, List.setIfInBounds_toArray, List.set_cons_zero, List.set_cons_succ]
  ((refine rt_yes (i := 1) (oi := { dst := some 4, op := .nilCheck (.tmp 3), type := 0, pos := "register.go:103", after := #[{ on := 0, ground := .data }], guard := none }) (v := ?_) rfl (by kernel_rfl) (by kernel_rfl) (by kernel_rfl) (fun _ _ _ h => h) rfl ?_ ?_); rotate_left; focus (intro W hW; (try dsimp only at hW); go_split_ands; go_simp; (try (simp (disch := omega) only [IntWalk.i64_in]; (try go_simp))); (try (split; (next => omega); (try go_simp))); try rfl; done))
  try simp only [Act.put, List.setIfInBounds_toArray, List.set_cons_zero, List.set_cons_succ]
  ((refine rt_yes (i := 2) (oi := { dst := some 5, op := .fieldAddr 88 (.tmp 4) 1, type := 0, pos := "register.go:103", after := #[{ on := 1, ground := .data }], guard := none }) (v := ?_) rfl (by kernel_rfl) (by kernel_rfl) (by kernel_rfl) (fun _ _ _ h => h) rfl ?_ ?_); rotate_left; focus (intro W hW; (try dsimp only at hW); go_split_ands; go_simp; (try (simp (disch := omega) only [IntWalk.i64_in]; (try go_simp))); (try (split; (next => omega); (try go_simp))); try rfl; done))
  try simp only [Act.put, List.setIfInBounds_toArray, List.set_cons_zero, List.set_cons_succ]
  ((refine rt_yes (i := 3) (oi := { dst := some 6, op := .load 28 (.tmp 5), type := 28, pos := "register.go:103", after := #[{ on := 2, ground := .data }], guard := none }) (v := ?_) rfl (by kernel_rfl) (by kernel_rfl) (by kernel_rfl) (fun _ _ _ h => h) rfl ?_ ?_); rotate_left; focus (intro W hW; (try dsimp only at hW); go_split_ands; go_simp; (try (simp (disch := omega) only [IntWalk.i64_in]; (try go_simp))); (try (split; (next => omega); (try go_simp))); try rfl; done))
  try simp only [Act.put, List.setIfInBounds_toArray, List.set_cons_zero, List.set_cons_succ]
  ((refine rt_yes (i := 4) (oi := { dst := some 7, op := .move (.tmp 0), type := 139, pos := "register.go:103", after := #[], guard := none }) (v := ?_) rfl (by kernel_rfl) (by kernel_rfl) (by kernel_rfl) (fun _ _ _ h => h) rfl ?_ ?_); rotate_left; focus (intro W hW; (try dsimp only at hW); go_split_ands; go_simp; (try (simp (disch := omega) only [IntWalk.i64_in]; (try go_simp))); (try (split; (next => omega); (try go_simp))); try rfl; done))
  try simp only [Act.put, List.setIfInBounds_toArray, List.set_cons_zero, List.set_cons_succ]
  ((refine rt_yes (i := 5) (oi := { dst := some 8, op := .nilCheck (.tmp 7), type := 0, pos := "register.go:103", after := #[{ on := 4, ground := .data }], guard := none }) (v := ?_) rfl (by kernel_rfl) (by kernel_rfl) (by kernel_rfl) (fun _ _ _ h => h) rfl ?_ ?_); rotate_left; focus (intro W hW; (try dsimp only at hW); go_split_ands; go_simp; (try (simp (disch := omega) only [IntWalk.i64_in]; (try go_simp))); (try (split; (next => omega); (try go_simp))); try rfl; done))
  try simp only [Act.put, List.setIfInBounds_toArray, List.set_cons_zero, List.set_cons_succ]
  ((refine rt_yes (i := 6) (oi := { dst := some 9, op := .fieldAddr 88 (.tmp 8) 0, type := 0, pos := "register.go:103", after := #[{ on := 5, ground := .data }], guard := none }) (v := ?_) rfl (by kernel_rfl) (by kernel_rfl) (by kernel_rfl) (fun _ _ _ h => h) rfl ?_ ?_); rotate_left; focus (intro W hW; (try dsimp only at hW); go_split_ands; go_simp; (try (simp (disch := omega) only [IntWalk.i64_in]; (try go_simp))); (try (split; (next => omega); (try go_simp))); try rfl; done))
  try simp only [Act.put, List.setIfInBounds_toArray, List.set_cons_zero, List.set_cons_succ]
  ((refine rt_yes (i := 7) (oi := { dst := some 10, op := .fieldAddr 68 (.tmp 9) 2, type := 0, pos := "register.go:103", after := #[{ on := 6, ground := .data }], guard := none }) (v := ?_) rfl (by kernel_rfl) (by kernel_rfl) (by kernel_rfl) (fun _ _ _ h => h) rfl ?_ ?_); rotate_left; focus (intro W hW; (try dsimp only at hW); go_split_ands; go_simp; (try (simp (disch := omega) only [IntWalk.i64_in]; (try go_simp))); (try (split; (next => omega); (try go_simp))); try rfl; done))
  try simp only [Act.put, List.setIfInBounds_toArray, List.set_cons_zero, List.set_cons_succ]
  ((refine rt_yes (i := 8) (oi := { dst := some 11, op := .load 61 (.tmp 10), type := 61, pos := "register.go:103", after := #[{ on := 7, ground := .data }], guard := none }) (v := ?_) rfl (by kernel_rfl) (by kernel_rfl) (by kernel_rfl) (fun _ _ _ h => h) rfl ?_ ?_); rotate_left; focus (intro W hW; (try dsimp only at hW); go_split_ands; go_simp; (try (simp (disch := omega) only [IntWalk.i64_in]; (try go_simp))); (try (split; (next => omega); (try go_simp))); try rfl; done))
  try simp only [Act.put, List.setIfInBounds_toArray, List.set_cons_zero, List.set_cons_succ]
  ((refine rt_yes (i := 9) (oi := { dst := some 12, op := .call { callee := .builtin .len, args := #[.tmp 11], argTypes := #[61] }, type := 3, pos := "register.go:103", after := #[{ on := 8, ground := .data }], guard := none }) (v := ?_) rfl (by kernel_rfl) (by kernel_rfl) (by kernel_rfl) (fun _ _ _ h => h) rfl ?_ ?_); rotate_left; focus (intro W hW; (try dsimp only at hW); go_split_ands; go_simp; (try (simp (disch := omega) only [IntWalk.i64_in]; (try go_simp))); (try (split; (next => omega); (try go_simp))); try rfl; done))
  try simp only [Act.put, List.setIfInBounds_toArray, List.set_cons_zero, List.set_cons_succ]
  refine rt_k (fun W => W.cell? ⟨g, o + 2, none⟩ = some (.slice A n cs) ∧ W.cell? ⟨g, o + 3, none⟩ = some (.slice Al l.length cl)) (i := 10) (oi := { dst := some 13, op := .call { callee := .value (.func 99), args := #[.tmp 6, .tmp 12], argTypes := #[28, 3] }, type := 46, pos := "register.go:103", after := #[{ on := 3, ground := .data }, { on := 9, ground := .data }], guard := none }) (by kernel_rfl) (HS.out _ cd) (fun _ h => h) rfl (by rfl) (fun K hK => ?_)
  go_simp
  refine (Hlast.out _ cd).mono ?_
  rintro e w3 ⟨vn, rfl, hc3, hsn⟩
  have cd3 := cd.trans hc3
  have Htot := Lib.hid (vtotal_any _ _ R w3 hsn (by omega))
  obtain ⟨An, cn, rfl⟩ := hsn.slice
  clear hsn
  refine hK _ _ ?_
  clear hK K
  try simp only [Act.put, List.setIfInBounds_toArray, List.set_cons_zero, List.set_cons_succ]
  refine rt_k (fun W => W.cell? ⟨g, o + 2, none⟩ = some (.slice A n cs) ∧ W.cell? ⟨g, o + 3, none⟩ = some (.slice Al l.length cl)) (i := 11) (oi := { dst := some 14, op := .call { callee := .value (.func 64), args := #[.tmp 13], argTypes := #[46] }, type := 3, pos := "register.go:103", after := #[{ on := 10, ground := .data }, { on := 10, ground := .chain }], guard := none }) (by kernel_rfl) (HS.out _ cd3) (fun _ h => h) rfl (by rfl) (fun K hK => ?_)
  go_simp
  refine Htot.out.mono ?_
  rintro e w4 ⟨rfl, hc4⟩
  have cd4 := cd3.trans hc4
  refine hK _ _ ?_
  clear hK K
  try simp only [Act.put, List.setIfInBounds_toArray, List.set_cons_zero, List.set_cons_succ]
  refine rt_k (fun W => W.cell? ⟨g, o + 2, none⟩ = some (.slice A n cs) ∧ W.cell? ⟨g, o + 3, none⟩ = some (.slice Al l.length cl)) (i := 12) (oi := { dst := some 2, op := .assign (.tmp 14), type := 3, pos := "register.go:103", after := #[{ on := 11, ground := .data }, { on := 11, ground := .chain }, { on := 0, ground := .phase }, { on := 1, ground := .phase }, { on := 2, ground := .phase }, { on := 3, ground := .phase }, { on := 4, ground := .phase }, { on := 5, ground := .phase }, { on := 6, ground := .phase }, { on := 7, ground := .phase }, { on := 8, ground := .phase }, { on := 9, ground := .phase }, { on := 10, ground := .phase }, { on := 11, ground := .phase }], guard := none }) (by kernel_rfl) (HS.out _ cd4) (fun _ h => h) rfl (by rfl) (fun K hK => ?_)
  go_simp
  refine hK _ _ ?_
  clear hK K
  try simp only [Act.put, List.setIfInBounds_toArray, List.set_cons_zero, List.set_cons_succ]
  refine rt_done (by kernel_rfl)  ?_
  go_wp2_with (with_reducible first | refine stop_append ?_ | refine stop_copy ?_ | refine stop_make ?_ | refine stop_lookup ?_ | refine stop_update ?_ | refine stop_slice ?_ | refine stop_range ?_ | refine stop_next ?_ | refine stop_convert ⟨_, rfl⟩ ?_ | refine stop_convertB ⟨_, _, _, rfl⟩ ?_ | refine stop_eqSlice ⟨_, _, rfl⟩ ?_)
  go_ret
  exact ⟨rfl, cd3.trans hc4⟩
end Go.Proofs.Ytbjpoamnglfjeaa


/- Texts RegH, TerC, App, SetA, QuoA, VecB, QuoE. -/
import Derived.Test.YticimjplegbagaaMg5
import Derived.Scope
/- Walks of package entry for a register: Chain. -/
set_option linter.unusedVariables false
set_option linter.unusedSimpArgs false
namespace Go.Proofs.Yticimjplegbagaa
open Go.RowKit Cb

def okE (i : Nat) (last : List Int) (e : Ent) : Bool := entR e && (decide (e.1 = (i : Int) + 1) && (!decide (e.2.1 = 1) || (decide (last.length = 0) || coversB e.2.2.1 last)))
def lastE (last : List Int) (e : Ent) : List Int := if e.2.1 = 1 then e.2.2.1 else last
/-- How many follow one another, and the last cut. -/
def chainF : List Ent → Nat → List Int → Nat × List Int
  | [], i, last => (i, last)
  | e :: r, i, last => if okE i last e = true then chainF r (i + 1) (lastE last e) else (i, last)
theorem chain_yes {l : List Ent} {k : Nat} {last : List Int} (hk : k < l.length) (h : okE k last l[k] = true) : chainF (l.drop k) k last = chainF (l.drop (k + 1)) (k + 1) (lastE last l[k]) := by
  rw [List.drop_eq_getElem_cons hk]; simp only [chainF]; rw [if_pos h]
theorem chain_no {l : List Ent} {k : Nat} {last : List Int} (hk : k < l.length) (h : okE k last l[k] = false) : chainF (l.drop k) k last = (k, last) := by
  rw [List.drop_eq_getElem_cons hk]; simp only [chainF]; rw [if_neg (by rw [h]; simp)]
set_option maxRecDepth 100000 in
set_option maxHeartbeats 2000000 in
theorem chain_any (v : Value) (l : List Ent) (w : World) (h : Sl No w v l) (hl : l.length ≤ 2199023255488) (hcb : ∀ e ∈ l, e.2.2.1.length ≤ 17592186043904) :
    Calls Try.prog 21 #[v] w fun e w' => e = .returned (.int .i64 ((chainF l 0 []).1 : Nat)) ∧ Chg No w w' := by
  obtain ⟨A, c, rfl⟩ := h.slice
  have H := Lib.hid (Sl.up h (Nat.le_refl _))
  have Hcb := Lib.hid hcb
  clear h hcb
  obtain ⟨R, hR⟩ : ∃ R, R = (chainF l 0 []).1 := ⟨_, rfl⟩
  rw [← hR]
  have HR := Lib.hid hR
  clear hR
  go_enter Try.func21, Try.ntmps21
  go_wp2_with (with_reducible first | refine stop_append ?_ | refine stop_copy ?_ | refine stop_make ?_ | refine stop_lookup ?_ | refine stop_update ?_ | refine stop_slice ?_ | refine stop_range ?_ | refine stop_next ?_ | refine stop_convert ⟨_, rfl⟩ ?_ | refine stop_convertB ⟨_, _, _, rfl⟩ ?_ | refine stop_eqSlice ⟨_, _, rfl⟩ ?_)
  refine wp_scope_straight ?_
  go_wp2_with (with_reducible first | refine stop_append ?_ | refine stop_copy ?_ | refine stop_make ?_ | refine stop_lookup ?_ | refine stop_update ?_ | refine stop_slice ?_ | refine stop_range ?_ | refine stop_next ?_ | refine stop_convert ⟨_, rfl⟩ ?_ | refine stop_convertB ⟨_, _, _, rfl⟩ ?_ | refine stop_eqSlice ⟨_, _, rfl⟩ ?_)
  refine wp_label ?_
  go_wp2_with (with_reducible first | refine stop_append ?_ | refine stop_copy ?_ | refine stop_make ?_ | refine stop_lookup ?_ | refine stop_update ?_ | refine stop_slice ?_ | refine stop_range ?_ | refine stop_next ?_ | refine stop_convert ⟨_, rfl⟩ ?_ | refine stop_convertB ⟨_, _, _, rfl⟩ ?_ | refine stop_eqSlice ⟨_, _, rfl⟩ ?_)
  go_loopw [3, 4, 9] (fun v3 v4 v9 wr => ∃ (k : Nat) (last : List Int), k ≤ l.length ∧ v9 = .int .i64 k ∧ v4 = .int .i64 k ∧ Chg No w wr ∧ Sl (Ge w.heap.size) wr v3 last ∧ last.length ≤ 17592186043904 ∧ R = (chainF (l.drop k) k last).1) (fun _ _ v9 _ => l.length - (intOf v9).toNat)
  case atStart => exact ⟨0, [], by omega, rfl, rfl, Chg.refl _ _, Sl.nil _ _ _ _, by simp, HR.out⟩
  case round =>
    obtain ⟨k, last, hk, rfl, rfl, hc, hsl, hll, hch⟩ := hrel
    have Hch := Lib.hid hch
    have Hsl := Lib.hid hsl
    obtain ⟨A3, c3, rfl⟩ := hsl.slice
    clear hch hsl
    by_cases hlt : k < l.length
    · obtain ⟨b, o, vx, rfl, _, hbl, hux, a0, a1, a2, a3, a4, a5⟩ := ent_get (H.out.keepNo hc) k hlt
      have hbx := Hcb.out _ (List.getElem_mem hlt)
      have Hyes := Lib.hid (fun h => Hch.out.trans (congrArg Prod.fst (chain_yes (last := last) hlt h)))
      have Hno := Lib.hid (fun h => Hch.out.trans (congrArg Prod.fst (chain_no (last := last) hlt h)))
      clear Hch
      have hokd : okE k last l[k] = (entR l[k] && (decide (l[k].1 = (k : Int) + 1) && (!decide (l[k].2.1 = 1) || (decide (last.length = 0) || coversB l[k].2.2.1 last)))) := rfl
      have hlsd : lastE last l[k] = if l[k].2.1 = 1 then l[k].2.2.1 else last := rfl
      generalize okE k last l[k] = ok at *
      generalize lastE last l[k] = las at *
      have Hr := Lib.hid (fun W (hW : Chg No wr W) => eright_any _ l[k] vx W (hux.keepNo hW) (by omega))
      have Hcov := Lib.hid (fun W (hW : Chg No wr W) => vcovers_any _ _ vx (.slice A3 last.length c3) _ last W (hux.keepNo hW) (Hsl.out.keepNo hW) (by omega) (by omega))
      generalize entR l[k] = er at *
      generalize coversB l[k].2.2.1 last = cv at *
      generalize l[k] = x at *
      obtain ⟨n, kd, cut, tag, t, p⟩ := x
      unfold entV at Hr
      simp only at *
      obtain ⟨Ax, cx, rfl⟩ := hux.slice
      have Hux := Lib.hid hux
      clear hux
      have Hok := Lib.hid hokd
      have Hls := Lib.hid hlsd
      clear hokd hlsd
      have o1 := alloc_obj wr (.cells #[.int .i64 n, .int .i64 kd, .slice Ax cut.length cx, .int .i64 tag, .int .i64 t, .int .i64 p] 76)
      have hcA := (Chg.refl No wr).alloc (.cells #[.int .i64 n, .int .i64 kd, .slice Ax cut.length cx, .int .i64 tag, .int .i64 t, .int .i64 p] 76)
      have g0 := cell_obj (i := 0) o1 rfl
      have g1 := cell_obj (i := 1) o1 rfl
      have g2 := cell_obj (i := 2) o1 rfl
      have g3 := cell_obj (i := 3) o1 rfl
      have g4 := cell_obj (i := 4) o1 rfl
      have g5 := cell_obj (i := 5) o1 rfl
      clear o1
      go_wp2_with (with_reducible first | refine stop_append ?_ | refine stop_copy ?_ | refine stop_make ?_ | refine stop_lookup ?_ | refine stop_update ?_ | refine stop_slice ?_ | refine stop_range ?_ | refine stop_next ?_ | refine stop_convert ⟨_, rfl⟩ ?_ | refine stop_convertB ⟨_, _, _, rfl⟩ ?_ | refine stop_eqSlice ⟨_, _, rfl⟩ ?_)
      generalize wr.alloc (.cells #[.int .i64 n, .int .i64 kd, .slice Ax cut.length cx, .int .i64 tag, .int .i64 t, .int .i64 p] 76) = w1 at *
      generalize wr.heap.size = q at *
      refine (Hr.out _ hcA).mono ?_
      rintro e w2 ⟨rfl, hc2⟩
      replace g0 := hc2.cell g0 (not_no _)
      replace g1 := hc2.cell g1 (not_no _)
      replace g2 := hc2.cell g2 (not_no _)
      have hcr := hcA.trans hc2
      have hcw := hc.trans hcr
      clear a0 a1 a2 a3 a4 a5 g3 g4 g5 hcA hc2
      cases er with
      | false =>
        have Hz := Lib.hid (Hno.out (by rw [Hok.out]; rfl))
        clear Hno Hyes Hok Hls
        go_wp2_with (with_reducible first | refine stop_append ?_ | refine stop_copy ?_ | refine stop_make ?_ | refine stop_lookup ?_ | refine stop_update ?_ | refine stop_slice ?_ | refine stop_range ?_ | refine stop_next ?_ | refine stop_convert ⟨_, rfl⟩ ?_ | refine stop_convertB ⟨_, _, _, rfl⟩ ?_ | refine stop_eqSlice ⟨_, _, rfl⟩ ?_)
        dsimp only [Exit.noGoto]
        go_ret
        exact ⟨by rw [Hz.out]; rfl, hcw⟩
      | true =>
        by_cases hn : n = (k : Int) + 1
        · have hn1 := decide_eq_true hn
          have hn2 : (n != (k : Int) + 1) = false := by simpa using hn
          have hn3 : (n == (k : Int) + 1) = true := by simpa using hn
          clear hn
          by_cases hk1 : kd = 1
          · subst hk1
            by_cases hl0 : last.length = 0
            · have Hz := Lib.hid (Hyes.out (by rw [Hok.out, hn1, decide_eq_true hl0]; rfl))
              rw [show las = cut by rw [Hls.out]; rfl] at Hz
              clear Hno Hyes Hok Hls hn1
              rw [hl0]
              go_wp2_with (with_reducible first | refine stop_append ?_ | refine stop_copy ?_ | refine stop_make ?_ | refine stop_lookup ?_ | refine stop_update ?_ | refine stop_slice ?_ | refine stop_range ?_ | refine stop_next ?_ | refine stop_convert ⟨_, rfl⟩ ?_ | refine stop_convertB ⟨_, _, _, rfl⟩ ?_ | refine stop_eqSlice ⟨_, _, rfl⟩ ?_)
              go_roundw
              case rel => exact ⟨k + 1, cut, by omega, by go_num, by go_num, hcw, Hux.out.keepNo hcr, hbx, Hz.out⟩
              case measure => simp [intOf]; omega
            · have hl1 : (0 : Int) < last.length := by omega
              cases cv with
              | true =>
                have Hz := Lib.hid (Hyes.out (by rw [Hok.out, hn1]; simp))
                rw [show las = cut by rw [Hls.out]; rfl] at Hz
                clear Hno Hyes Hok Hls hn1
                go_wp2_with (with_reducible first | refine stop_append ?_ | refine stop_copy ?_ | refine stop_make ?_ | refine stop_lookup ?_ | refine stop_update ?_ | refine stop_slice ?_ | refine stop_range ?_ | refine stop_next ?_ | refine stop_convert ⟨_, rfl⟩ ?_ | refine stop_convertB ⟨_, _, _, rfl⟩ ?_ | refine stop_eqSlice ⟨_, _, rfl⟩ ?_)
                refine (Hcov.out _ hcr).mono ?_
                rintro e w3 ⟨rfl, hc3⟩
                replace g2 := hc3.cell g2 (not_no _)
                go_wp2_with (with_reducible first | refine stop_append ?_ | refine stop_copy ?_ | refine stop_make ?_ | refine stop_lookup ?_ | refine stop_update ?_ | refine stop_slice ?_ | refine stop_range ?_ | refine stop_next ?_ | refine stop_convert ⟨_, rfl⟩ ?_ | refine stop_convertB ⟨_, _, _, rfl⟩ ?_ | refine stop_eqSlice ⟨_, _, rfl⟩ ?_)
                go_roundw
                case rel => exact ⟨k + 1, cut, by omega, by go_num, by go_num, hcw.trans hc3, (Hux.out.keepNo hcr).keepNo hc3, hbx, Hz.out⟩
                case measure => simp [intOf]; omega
              | false =>
                have Hz := Lib.hid (Hno.out (by rw [Hok.out, hn1, decide_eq_false hl0]; rfl))
                clear Hno Hyes Hok Hls hn1
                go_wp2_with (with_reducible first | refine stop_append ?_ | refine stop_copy ?_ | refine stop_make ?_ | refine stop_lookup ?_ | refine stop_update ?_ | refine stop_slice ?_ | refine stop_range ?_ | refine stop_next ?_ | refine stop_convert ⟨_, rfl⟩ ?_ | refine stop_convertB ⟨_, _, _, rfl⟩ ?_ | refine stop_eqSlice ⟨_, _, rfl⟩ ?_)
                refine (Hcov.out _ hcr).mono ?_
                rintro e w3 ⟨rfl, hc3⟩
                go_wp2_with (with_reducible first | refine stop_append ?_ | refine stop_copy ?_ | refine stop_make ?_ | refine stop_lookup ?_ | refine stop_update ?_ | refine stop_slice ?_ | refine stop_range ?_ | refine stop_next ?_ | refine stop_convert ⟨_, rfl⟩ ?_ | refine stop_convertB ⟨_, _, _, rfl⟩ ?_ | refine stop_eqSlice ⟨_, _, rfl⟩ ?_)
                dsimp only [Exit.noGoto]
                go_ret
                exact ⟨by rw [Hz.out]; rfl, hcw.trans hc3⟩
          · have Hz := Lib.hid (Hyes.out (by rw [Hok.out, hn1, decide_eq_false hk1]; rfl))
            rw [show las = last by rw [Hls.out, if_neg hk1]] at Hz
            have hk2 : (kd == 1) = false := by simpa using hk1
            have hk3 : (kd != 1) = true := by simpa using hk1
            clear Hno Hyes Hok Hls hn1 hk1
            go_wp2_with (with_reducible first | refine stop_append ?_ | refine stop_copy ?_ | refine stop_make ?_ | refine stop_lookup ?_ | refine stop_update ?_ | refine stop_slice ?_ | refine stop_range ?_ | refine stop_next ?_ | refine stop_convert ⟨_, rfl⟩ ?_ | refine stop_convertB ⟨_, _, _, rfl⟩ ?_ | refine stop_eqSlice ⟨_, _, rfl⟩ ?_)
            go_roundw
            case rel => exact ⟨k + 1, last, by omega, by go_num, by go_num, hcw, Hsl.out.keepNo hcr, hll, Hz.out⟩
            case measure => simp [intOf]; omega
        · have Hz := Lib.hid (Hno.out (by rw [Hok.out, decide_eq_false hn]; rfl))
          have hn2 : (n != (k : Int) + 1) = true := by simpa using hn
          have hn3 : (n == (k : Int) + 1) = false := by simpa using hn
          clear Hno Hyes Hok Hls hn
          go_wp2_with (with_reducible first | refine stop_append ?_ | refine stop_copy ?_ | refine stop_make ?_ | refine stop_lookup ?_ | refine stop_update ?_ | refine stop_slice ?_ | refine stop_range ?_ | refine stop_next ?_ | refine stop_convert ⟨_, rfl⟩ ?_ | refine stop_convertB ⟨_, _, _, rfl⟩ ?_ | refine stop_eqSlice ⟨_, _, rfl⟩ ?_)
          dsimp only [Exit.noGoto]
          go_ret
          exact ⟨by rw [Hz.out]; rfl, hcw⟩
    · obtain rfl : k = l.length := by omega
      rw [List.drop_length] at Hch
      have Hz := Lib.hid Hch.out
      clear Hch
      go_wp2_with (with_reducible first | refine stop_append ?_ | refine stop_copy ?_ | refine stop_make ?_ | refine stop_lookup ?_ | refine stop_update ?_ | refine stop_slice ?_ | refine stop_range ?_ | refine stop_next ?_ | refine stop_convert ⟨_, rfl⟩ ?_ | refine stop_convertB ⟨_, _, _, rfl⟩ ?_ | refine stop_eqSlice ⟨_, _, rfl⟩ ?_)
      dsimp only [Exit.noGoto]
      go_ret
      exact ⟨by rw [Hz.out]; rfl, hc⟩
end Go.Proofs.Yticimjplegbagaa


/- Walks of package term: Same. -/
set_option linter.unusedVariables false
set_option linter.unusedSimpArgs false
namespace Go.Proofs.Yticimjplegbagaa
open Go.RowKit Cb

set_option maxRecDepth 100000 in
set_option maxHeartbeats 1000000 in
theorem eqrows_any (F G : Nat → Prop) (v u : Value) (xs ys : List (List Int)) (w : World) (h : Sl F w v xs) (h' : Sl G w u ys) (hl : xs.length ≤ 1000000) (hl' : ys.length ≤ 17592186044416) (hb : ∀ x ∈ xs, x.length ≤ 1000000) (hb' : ∀ x ∈ ys, x.length ≤ 17592186044416) :
    Calls Try.prog 102 #[v, u, .func (.func 57) #[] #[]] w fun e w' => e = .returned (.bool (decide (xs = ys))) ∧ Chg No w w' := by
  obtain ⟨A, c, rfl⟩ := h.slice
  obtain ⟨B, d, rfl⟩ := h'.slice
  have H := Lib.hid h; have H' := Lib.hid h'; have Hb := Lib.hid hb; have Hb' := Lib.hid hb'
  clear h h' hb hb'
  by_cases hlen : xs.length = ys.length
  · go_enter Try.func102, Try.ntmps102
    have Hlen := Lib.hid hlen
    rw [← hlen] at H' hl' ⊢
    clear hlen
    go_wp2_with (with_reducible first | refine stop_append ?_ | refine stop_copy ?_ | refine stop_make ?_ | refine stop_lookup ?_ | refine stop_update ?_ | refine stop_slice ?_ | refine stop_range ?_ | refine stop_next ?_ | refine stop_convert ⟨_, rfl⟩ ?_ | refine stop_convertB ⟨_, _, _, rfl⟩ ?_ | refine stop_eqSlice ⟨_, _, rfl⟩ ?_)
    go_loopw [7, 17] (fun _ v17 wr => ∃ k : Nat, k ≤ xs.length ∧ v17 = .int .i64 k ∧ Chg No w wr ∧ xs.take k = ys.take k) (fun _ v17 _ => xs.length - (intOf v17).toNat)
    case atStart => exact ⟨0, by omega, rfl, Chg.refl _ _, rfl⟩
    case round =>
      obtain ⟨k, hk, rfl, hc, he⟩ := hrel
      have He := Lib.hid he; clear he
      by_cases hlt : k < xs.length
      · have hlt' : k < ys.length := by have := Hlen.out; omega
        obtain ⟨b, o, vx, rfl, _, hbl, hx0, hux⟩ := rowT_get (H.out.keepNo hc) k hlt
        have hgy : Sl G w (.slice B xs.length d) ys := H'.out
        obtain ⟨b', o', vy, rfl, _, hbl', hy0, huy⟩ := rowT_get (hgy.keepNo hc) k hlt'
        have hsx : xs.take (k + 1) = xs.take k ++ [xs[k]] := List.take_succ_eq_append_getElem hlt
        have hsy : ys.take (k + 1) = ys.take k ++ [ys[k]] := List.take_succ_eq_append_getElem hlt'
        have hxy : xs[k] ≠ ys[k] → xs ≠ ys := fun h e => h (by subst e; rfl)
        have hbx := Hb.out _ (List.getElem_mem hlt)
        have hby := Hb'.out _ (List.getElem_mem hlt')
        clear hgy
        generalize xs[k] = x at *
        generalize ys[k] = y at *
        have Hcall := Lib.hid (vequal_any F G vx vy x y wr hux huy hbx hby)
        obtain ⟨Ax, cx, rfl⟩ := hux.slice
        obtain ⟨Ay, cy, rfl⟩ := huy.slice
        have Hsx := Lib.hid hsx; have Hsy := Lib.hid hsy; have Hxy := Lib.hid hxy
        clear hsx hsy hxy hux huy
        by_cases hq : x = y
        · rw [decide_eq_true hq] at Hcall
          have Hq := Lib.hid hq
          clear hq
          go_wp2_with (with_reducible first | refine stop_append ?_ | refine stop_copy ?_ | refine stop_make ?_ | refine stop_lookup ?_ | refine stop_update ?_ | refine stop_slice ?_ | refine stop_range ?_ | refine stop_next ?_ | refine stop_convert ⟨_, rfl⟩ ?_ | refine stop_convertB ⟨_, _, _, rfl⟩ ?_ | refine stop_eqSlice ⟨_, _, rfl⟩ ?_)
          refine Hcall.out.mono ?_
          rintro e w3 ⟨rfl, hc3⟩
          go_wp2_with (with_reducible first | refine stop_append ?_ | refine stop_copy ?_ | refine stop_make ?_ | refine stop_lookup ?_ | refine stop_update ?_ | refine stop_slice ?_ | refine stop_range ?_ | refine stop_next ?_ | refine stop_convert ⟨_, rfl⟩ ?_ | refine stop_convertB ⟨_, _, _, rfl⟩ ?_ | refine stop_eqSlice ⟨_, _, rfl⟩ ?_)
          go_roundw
          case rel => exact ⟨k + 1, by omega, by go_num, hc.trans hc3, by rw [Hsx.out, Hsy.out, He.out, Hq.out]⟩
          case measure => simp [intOf]; omega
        · rw [decide_eq_false hq] at Hcall
          have Hq := Lib.hid hq
          clear hq
          go_wp2_with (with_reducible first | refine stop_append ?_ | refine stop_copy ?_ | refine stop_make ?_ | refine stop_lookup ?_ | refine stop_update ?_ | refine stop_slice ?_ | refine stop_range ?_ | refine stop_next ?_ | refine stop_convert ⟨_, rfl⟩ ?_ | refine stop_convertB ⟨_, _, _, rfl⟩ ?_ | refine stop_eqSlice ⟨_, _, rfl⟩ ?_)
          refine Hcall.out.mono ?_
          rintro e w3 ⟨rfl, hc3⟩
          go_wp2_with (with_reducible first | refine stop_append ?_ | refine stop_copy ?_ | refine stop_make ?_ | refine stop_lookup ?_ | refine stop_update ?_ | refine stop_slice ?_ | refine stop_range ?_ | refine stop_next ?_ | refine stop_convert ⟨_, rfl⟩ ?_ | refine stop_convertB ⟨_, _, _, rfl⟩ ?_ | refine stop_eqSlice ⟨_, _, rfl⟩ ?_)
          go_ret
          exact ⟨by simp [Hxy.out Hq.out], hc.trans hc3⟩
      · obtain rfl : k = xs.length := by omega
        have he := He.out
        rw [List.take_length, Hlen.out, List.take_length] at he
        have Heq := Lib.hid he
        clear he He
        go_wp2_with (with_reducible first | refine stop_append ?_ | refine stop_copy ?_ | refine stop_make ?_ | refine stop_lookup ?_ | refine stop_update ?_ | refine stop_slice ?_ | refine stop_range ?_ | refine stop_next ?_ | refine stop_convert ⟨_, rfl⟩ ?_ | refine stop_convertB ⟨_, _, _, rfl⟩ ?_ | refine stop_eqSlice ⟨_, _, rfl⟩ ?_)
        go_ret
        exact ⟨by simp [Heq.out], hc⟩
  · have hne : ((xs.length : Int) != ys.length) = true := by simp; omega
    have hne2 : ((xs.length : Int) == ys.length) = false := by simp; omega
    have Hn := Lib.hid (show xs ≠ ys from fun e => hlen (by rw [e]))
    clear hlen
    go_enter Try.func102, Try.ntmps102
    go_wp2_with (with_reducible first | refine stop_append ?_ | refine stop_copy ?_ | refine stop_make ?_ | refine stop_lookup ?_ | refine stop_update ?_ | refine stop_slice ?_ | refine stop_range ?_ | refine stop_next ?_ | refine stop_convert ⟨_, rfl⟩ ?_ | refine stop_convertB ⟨_, _, _, rfl⟩ ?_ | refine stop_eqSlice ⟨_, _, rfl⟩ ?_)
    go_ret
    exact ⟨by simp [Hn.out], Chg.refl _ _⟩
end Go.Proofs.Yticimjplegbagaa


/- Rows that are cut, and appended to where there is no room: words and laws that speak of no program. -/
set_option linter.unusedVariables false
namespace Cb
open Go Go.Deep
section
variable {P : Program} {OPS : Array Oper} {Q : Exit → Act → World → Prop} {w : World} {a : Act} {rest : List Oper} {α : Type}
/-- x[l:]. -/
theorem run_cut_lo [Rep α] {t e : TypeId} {z : Value} {bytes : Nat} (ht : P.underlying t = some (.slice e)) (hi' : Info P e z (Rep.n α) bytes) (A : Option Addr) (n c l : Nat) (hl : l ≤ n) (hnc : n ≤ c) :
    ∃ A' c', (∀ W, (Instr.sliceAt t (.slice A n c) (some (.int .i64 l)) none none).run P W = .ok (.slice A' (n - l) c') W) ∧
      ∀ (F : Nat → Prop) (w : World) (xs : List α), Sl F w (.slice A n c) xs → Sl F w (.slice A' (n - l) c') (xs.drop l) := by
  obtain ⟨i, hi0, hz0, hz1, hz2⟩ := info_parts hi'
  have hb : ∀ W, (Instr.sliceBounds true n c (some (.int .i64 l)) none none).run P W = .ok (l, n, c) W := fun W => by
    simp [Instr.sliceBounds, run_sliceBound_in, hl]
  refine ⟨_, _, fun W => by simp [Instr.sliceAt, Instr.slice, run_underlying ht, hb, Go.sizeOf, typeInfo, hi0]; exact ⟨rfl, rfl⟩, fun F w xs hs => ?_⟩
  obtain ⟨A', c', e', hlen, hr⟩ := hs
  cases e'
  have hll : (xs.drop l).length = xs.length - l := List.length_drop
  refine ⟨_, _, by rw [hll], by rw [hll]; omega, ?_⟩
  rcases hr with rfl | ⟨b, o, rfl, hb', hlt, hr⟩
  · left; simp
  · by_cases hcl : c = l
    · left; apply List.eq_nil_of_length_eq_zero; rw [hll]; omega
    · right
      refine ⟨b, o + l * Rep.n α, by rw [if_neg hcl]; simp [hz1, Addr.add_lit], hb', hlt, fun k hk => ?_⟩
      obtain ⟨d, hd, hj⟩ := hr (l + k) (by omega)
      refine ⟨d, by simpa using hd, fun j u hu => ?_⟩
      have := hj j u hu
      rw [show o + l * Rep.n α + k * Rep.n α + j = o + (l + k) * Rep.n α + j by rw [Nat.add_mul]; omega]
      exact this
/-- What may be appended to: a row of the call's own (in a block below n0), or one behind which there is no room. -/
def AppT [Rep α] (F : Nat → Prop) (w : World) (base n0 : Nat) (T : TypeId) (v : Value) (xs : List α) : Prop :=
  (Own F w base T v xs ∧ ∀ k, OB v k → k < n0) ∨ (Sl F w v xs ∧ ∃ A n, v = .slice A n n)
theorem AppT.sl [Rep α] {F : Nat → Prop} {base n0 : Nat} {T : TypeId} {v : Value} {xs : List α} (h : AppT F w base n0 T v xs) (hF : ∀ k, F k → k < base) : Sl F w v xs := by
  rcases h with h | h
  · exact h.1.sl (fun k hk f => by have := (h.1.lt k hk).1; have := hF k f; omega)
  · exact h.1
theorem AppT.slice [Rep α] {F : Nat → Prop} {base n0 : Nat} {T : TypeId} {v : Value} {xs : List α} (h : AppT F w base n0 T v xs) : ∃ A c, v = .slice A xs.length c := by
  rcases h with h | h
  · exact h.1.slice
  · exact h.1.slice
theorem AppT.keep [Rep α] {F : Nat → Prop} {w' : World} {base n0 : Nat} {T : TypeId} {v : Value} {xs : List α} (h : AppT F w base n0 T v xs) (hc : Chg F w w') (hF : ∀ k, F k → k < base) : AppT F w' base n0 T v xs := by
  rcases h with h | h
  · exact .inl ⟨h.1.keep hc (fun _ _ f => f) (fun k hk f => by have := (h.1.lt k hk).1; have := hF k f; omega), h.2⟩
  · exact .inr ⟨h.1.keep hc, h.2⟩
theorem AppT.keepNo [Rep α] {F : Nat → Prop} {w' : World} {base n0 : Nat} {T : TypeId} {v : Value} {xs : List α} (h : AppT F w base n0 T v xs) (hc : Chg No w w') (hF : ∀ k, F k → k < base) : AppT F w' base n0 T v xs := h.keep hc.of_no hF
end
section
variable {P : Program} {ops : Array Oper} {Q : Exit → Act → World → Prop} {S : World → Prop} {fuel : Nat} {listed : Array Bool} {a : Act} {w : World}
end
end Cb


/- A store of several cells. -/
set_option linter.unusedVariables false
namespace Cb
open Go Go.Deep Go.RowKit

def sAll (w : World) (q : Nat) : Nat → List Value → World
  | _, [] => w
  | i, x :: r => sAll (w.setCell ⟨q, i, none⟩ x) q (i + 1) r
def pAll (C : Array Value) : Nat → List Value → Array Value
  | _, [] => C
  | i, x :: r => pAll (C.setIfInBounds i x) (i + 1) r
theorem sAll_obj {q : Nat} {T : TypeId} {fz : Nat × Nat} : ∀ (xs : List Value) (i : Nat) (w : World) (C : Array Value), w.heap[q]? = some (.cells C T fz) → (sAll w q i xs).heap[q]? = some (.cells (pAll C i xs) T fz) ∧ Chg (At q) w (sAll w q i xs)
  | [], _, w, C, h => ⟨h, Chg.refl _ _⟩
  | x :: r, i, w, C, h => by
    obtain ⟨h1, h2⟩ := sAll_obj r (i + 1) (w.setCell ⟨q, i, none⟩ x) _ (set_obj h x)
    exact ⟨h1, (chg_set x).trans h2⟩
theorem sset4 {w : World} {q : Nat} {c0 c1 c2 c3 : Value} {T : TypeId} {fz : Nat × Nat} (h : w.heap[q]? = some (.cells #[c0, c1, c2, c3] T fz)) (x0 x1 x2 x3 : Value) :
    ((((w.setCell ⟨q, 0, none⟩ (x0)).setCell ⟨q, 1, none⟩ (x1)).setCell ⟨q, 2, none⟩ (x2)).setCell ⟨q, 3, none⟩ (x3)).heap[q]? = some (.cells #[x0, x1, x2, x3] T fz) ∧ Chg (At q) w ((((w.setCell ⟨q, 0, none⟩ (x0)).setCell ⟨q, 1, none⟩ (x1)).setCell ⟨q, 2, none⟩ (x2)).setCell ⟨q, 3, none⟩ (x3)) := by
  have := sAll_obj [x0, x1, x2, x3] 0 w _ h
  simp only [sAll, pAll, List.setIfInBounds_toArray, List.set_cons_zero, List.set_cons_succ, Nat.reduceAdd] at this
  exact this
theorem sset6 {w : World} {q : Nat} {c0 c1 c2 c3 c4 c5 : Value} {T : TypeId} {fz : Nat × Nat} (h : w.heap[q]? = some (.cells #[c0, c1, c2, c3, c4, c5] T fz)) (x0 x1 x2 x3 x4 x5 : Value) :
    ((((((w.setCell ⟨q, 0, none⟩ (x0)).setCell ⟨q, 1, none⟩ (x1)).setCell ⟨q, 2, none⟩ (x2)).setCell ⟨q, 3, none⟩ (x3)).setCell ⟨q, 4, none⟩ (x4)).setCell ⟨q, 5, none⟩ (x5)).heap[q]? = some (.cells #[x0, x1, x2, x3, x4, x5] T fz) ∧ Chg (At q) w ((((((w.setCell ⟨q, 0, none⟩ (x0)).setCell ⟨q, 1, none⟩ (x1)).setCell ⟨q, 2, none⟩ (x2)).setCell ⟨q, 3, none⟩ (x3)).setCell ⟨q, 4, none⟩ (x4)).setCell ⟨q, 5, none⟩ (x5)) := by
  have := sAll_obj [x0, x1, x2, x3, x4, x5] 0 w _ h
  simp only [sAll, pAll, List.setIfInBounds_toArray, List.set_cons_zero, List.set_cons_succ, Nat.reduceAdd] at this
  exact this
end Cb


/- Walks of package quorum: entries of the caller's own; numbers in a row; the majority. -/
set_option linter.unusedVariables false
set_option linter.unusedSimpArgs false
namespace Go.Proofs.Yticimjplegbagaa
open Go.RowKit Cb

set_option maxRecDepth 100000 in
set_option maxHeartbeats 1000000 in
theorem lindex_any (F : Nat → Prop) (v : Value) (xs : List Int) (x : Int) (w : World) (hs : Sl F w v xs) (hl : xs.length * 8 ≤ 140737488355328) :
    Calls Try.prog 56 #[v, .int .i64 x] w fun e w' => ∃ n : Int, e = .returned (.int .i64 n) ∧ decide (n ≥ 0) = decide (x ∈ xs) ∧ Chg No w w' := by
  have Hs := Lib.hid (fun W (hW : Chg No w W) => hs.keepNo hW)
  obtain ⟨A, c, rfl⟩ := hs.slice
  clear hs
  go_enter Try.func56, Try.ntmps56
  go_wp2_with (with_reducible first | refine stop_append ?_ | refine stop_copy ?_ | refine stop_make ?_ | refine stop_lookup ?_ | refine stop_update ?_ | refine stop_slice ?_ | refine stop_range ?_ | refine stop_next ?_ | refine stop_convert ⟨_, rfl⟩ ?_ | refine stop_convertB ⟨_, _, _, rfl⟩ ?_ | refine stop_eqSlice ⟨_, _, rfl⟩ ?_)
  go_loopw [5, 8] (fun _ v8 wr => ∃ k : Nat, k ≤ xs.length ∧ v8 = .int .i64 k ∧ Chg No w wr ∧ x ∉ xs.take k) (fun _ v8 _ => xs.length - (intOf v8).toNat)
  case atStart => exact ⟨0, by omega, rfl, Chg.refl _ _, by simp⟩
  case round =>
    obtain ⟨k, hk, rfl, hc, hno⟩ := hrel
    have Hno := Lib.hid hno
    clear hno
    by_cases hlt : k < xs.length
    · obtain ⟨b, o, rfl, _, hbl, hx0⟩ := intT_get (Hs.out wr hc) k hlt
      have Hmem := Lib.hid (List.getElem_mem hlt)
      have Htk := Lib.hid (List.take_succ_eq_append_getElem hlt)
      generalize xs[k] = y at *
      by_cases hxy : y = x
      · have Hd := Lib.hid (show decide ((k : Int) ≥ 0) = decide (x ∈ xs) from by rw [decide_eq_true (show x ∈ xs from hxy ▸ Hmem.out)]; exact decide_eq_true (by omega))
        subst hxy
        go_wp2_with (with_reducible first | refine stop_append ?_ | refine stop_copy ?_ | refine stop_make ?_ | refine stop_lookup ?_ | refine stop_update ?_ | refine stop_slice ?_ | refine stop_range ?_ | refine stop_next ?_ | refine stop_convert ⟨_, rfl⟩ ?_ | refine stop_convertB ⟨_, _, _, rfl⟩ ?_ | refine stop_eqSlice ⟨_, _, rfl⟩ ?_)
        go_ret
        exact ⟨_, rfl, Hd.out, hc⟩
      · have hb : (x == y) = false := by simpa using fun h => hxy h.symm
        have Hxy := Lib.hid hxy
        clear hxy
        go_wp2_with (with_reducible first | refine stop_append ?_ | refine stop_copy ?_ | refine stop_make ?_ | refine stop_lookup ?_ | refine stop_update ?_ | refine stop_slice ?_ | refine stop_range ?_ | refine stop_next ?_ | refine stop_convert ⟨_, rfl⟩ ?_ | refine stop_convertB ⟨_, _, _, rfl⟩ ?_ | refine stop_eqSlice ⟨_, _, rfl⟩ ?_)
        go_roundw
        case rel => exact ⟨k + 1, by omega, by go_num, hc, by rw [Htk.out, List.mem_append, List.mem_singleton]; rintro (h | h); exact Hno.out h; exact Hxy.out h.symm⟩
        case measure => simp [intOf]; omega
    · obtain rfl : k = xs.length := by omega
      rw [List.take_length] at Hno
      have Hd := Lib.hid (show decide ((-1 : Int) ≥ 0) = decide (x ∈ xs) from by rw [decide_eq_false Hno.out]; rfl)
      go_wp2_with (with_reducible first | refine stop_append ?_ | refine stop_copy ?_ | refine stop_make ?_ | refine stop_lookup ?_ | refine stop_update ?_ | refine stop_slice ?_ | refine stop_range ?_ | refine stop_next ?_ | refine stop_convert ⟨_, rfl⟩ ?_ | refine stop_convertB ⟨_, _, _, rfl⟩ ?_ | refine stop_eqSlice ⟨_, _, rfl⟩ ?_)
      go_ret
      exact ⟨_, rfl, Hd.out, hc⟩
set_option maxRecDepth 100000 in
set_option maxHeartbeats 1000000 in
theorem lcontains_any (F : Nat → Prop) (v : Value) (xs : List Int) (x : Int) (w : World) (hs : Sl F w v xs) (hl : xs.length * 8 ≤ 140737488355328) :
    Calls Try.prog 36 #[v, .int .i64 x] w fun e w' => e = .returned (.bool (decide (x ∈ xs))) ∧ Chg No w w' := by
  have H := Lib.hid (lindex_any F v xs x w hs hl)
  clear hs
  go_enter Try.func36, Try.ntmps36
  go_wp2_with (with_reducible first | refine stop_append ?_ | refine stop_copy ?_ | refine stop_make ?_ | refine stop_lookup ?_ | refine stop_update ?_ | refine stop_slice ?_ | refine stop_range ?_ | refine stop_next ?_ | refine stop_convert ⟨_, rfl⟩ ?_ | refine stop_convertB ⟨_, _, _, rfl⟩ ?_ | refine stop_eqSlice ⟨_, _, rfl⟩ ?_)
  refine H.out.mono ?_
  rintro e w1 ⟨n, rfl, hn, hc⟩
  have Hn := Lib.hid hn
  clear hn
  go_wp2_with (with_reducible first | refine stop_append ?_ | refine stop_copy ?_ | refine stop_make ?_ | refine stop_lookup ?_ | refine stop_update ?_ | refine stop_slice ?_ | refine stop_range ?_ | refine stop_next ?_ | refine stop_convert ⟨_, rfl⟩ ?_ | refine stop_convertB ⟨_, _, _, rfl⟩ ?_ | refine stop_eqSlice ⟨_, _, rfl⟩ ?_)
  go_ret
  exact ⟨by rw [← Hn.out]; rfl, hc⟩
set_option maxRecDepth 100000 in
set_option maxHeartbeats 1000000 in
theorem majority_any (t : Int) (vq vs : Value) (q : List Int) (w : World) (hq : Sl No w vq q) (hs : ∃ A n c, vs = .slice A n c) (hl : q.length ≤ 1000000) :
    Calls Try.prog 32 #[.agg #[.int .i64 t, vq, vs]] w fun e w' => e = .returned (.int .i64 ((q.length / 2 : Nat) + 1)) ∧ Chg No w w' := by
  obtain ⟨A, c, rfl⟩ := hq.slice
  obtain ⟨As, ns, cs, rfl⟩ := hs
  have hca := (Chg.refl No w).alloc (.cells #[.int .i64 t, .slice A q.length c, .slice As ns cs] 36)
  have ho := alloc_obj w (.cells #[.int .i64 t, .slice A q.length c, .slice As ns cs] 36)
  have c1 := cell_obj (i := 1) ho rfl
  clear ho hq
  go_enter Try.func32, Try.ntmps32
  go_wp2_with (with_reducible first | refine stop_append ?_ | refine stop_copy ?_ | refine stop_make ?_ | refine stop_lookup ?_ | refine stop_update ?_ | refine stop_slice ?_ | refine stop_range ?_ | refine stop_next ?_ | refine stop_convert ⟨_, rfl⟩ ?_ | refine stop_convertB ⟨_, _, _, rfl⟩ ?_ | refine stop_eqSlice ⟨_, _, rfl⟩ ?_)
  go_ret
  refine ⟨?_, hca⟩
  simp
set_option maxRecDepth 100000 in
set_option maxHeartbeats 1000000 in
theorem qcopied_any (F : Nat → Prop) (e : Ent) (v : Value) (w : World) (h : Sl F w v e.2.2.1) (hl : e.2.2.1.length ≤ 1000000) :
    Calls Try.prog 58 #[entV e v] w fun x w' => ∃ v', x = .returned (entV e v') ∧ Chg No w w' ∧ Sl (Lt w.heap.size) w' v' e.2.2.1 := by
  obtain ⟨n, kd, cut, tag, t, u⟩ := e
  simp only at h hl ⊢
  obtain ⟨Av, cv, rfl⟩ := h.slice
  unfold entV
  have hca := (Chg.refl No w).alloc (.cells #[.int .i64 n, .int .i64 kd, .slice Av cut.length cv, .int .i64 tag, .int .i64 t, .int .i64 u] 76)
  have hcb := (Chg.refl No (w.alloc (.cells #[.int .i64 n, .int .i64 kd, .slice Av cut.length cv, .int .i64 tag, .int .i64 t, .int .i64 u] 76))).alloc (.cells #[.int .i64 0, .int .i64 0, .slice none 0 0, .int .i64 0, .int .i64 0, .int .i64 0] 76)
  have o1 := hcb.obj (alloc_obj w (.cells #[.int .i64 n, .int .i64 kd, .slice Av cut.length cv, .int .i64 tag, .int .i64 t, .int .i64 u] 76)) (not_no _)
  have o2 := alloc_obj (w.alloc (.cells #[.int .i64 n, .int .i64 kd, .slice Av cut.length cv, .int .i64 tag, .int .i64 t, .int .i64 u] 76)) (.cells #[.int .i64 0, .int .i64 0, .slice none 0 0, .int .i64 0, .int .i64 0, .int .i64 0] 76)
  have hc2 := hca.trans hcb
  have a2 := cell_obj (i := 2) o1 rfl
  have He5 := Lib.hid (show (w.alloc (.cells #[.int .i64 n, .int .i64 kd, .slice Av cut.length cv, .int .i64 tag, .int .i64 t, .int .i64 u] 76)).heap.size = w.heap.size + 1 by simp)
  have Hclone := Lib.hid (vclone_any F (.slice Av cut.length cv) cut _ (h.keepNo hc2) hl)
  clear h hca hcb
  go_enter Try.func58, Try.ntmps58
  go_wp2_with (with_reducible first | refine stop_append ?_ | refine stop_copy ?_ | refine stop_make ?_ | refine stop_lookup ?_ | refine stop_update ?_ | refine stop_slice ?_ | refine stop_range ?_ | refine stop_next ?_ | refine stop_convert ⟨_, rfl⟩ ?_ | refine stop_convertB ⟨_, _, _, rfl⟩ ?_ | refine stop_eqSlice ⟨_, _, rfl⟩ ?_)
  rw [← He5.out]
  generalize (w.alloc (.cells #[.int .i64 n, .int .i64 kd, .slice Av cut.length cv, .int .i64 tag, .int .i64 t, .int .i64 u] 76)).alloc (.cells #[.int .i64 0, .int .i64 0, .slice none 0 0, .int .i64 0, .int .i64 0, .int .i64 0] 76) = w2 at *
  generalize (w.alloc (.cells #[.int .i64 n, .int .i64 kd, .slice Av cut.length cv, .int .i64 tag, .int .i64 t, .int .i64 u] 76)).heap.size = q at *
  have hq2 := Lib.hid (lt_of_heap o2)
  refine Hclone.out.mono ?_
  rintro e w3 ⟨vn, rfl, hc3, hsn⟩
  obtain ⟨An, cn, rfl⟩ := hsn.slice
  have Hsn := Lib.hid hsn
  replace o1 := hc3.obj o1 (not_no _)
  replace o2 := hc3.obj o2 (not_no _)
  have hc13 := hc2.trans hc3
  clear a2 hsn hc2 Hclone
  have o3 := set_obj (i := 2) o1 (.slice An cut.length cn)
  have k3 := chg_set (w := w3) (b := w.heap.size) (i := 2) (.slice An cut.length cn)
  have o4 := k3.obj o2 (by simp only [At]; have := He5.out; omega)
  have hqp : q ≠ w.heap.size := by have := He5.out; omega
  have hpq : w.heap.size ≠ q := by have := He5.out; omega
  have a0 := cell_obj (i := 0) o1 rfl
  have f0 := free_obj (i := 0) o1
  have a1 := cell_obj (i := 1) o1 rfl
  have f1 := free_obj (i := 1) o1
  have a2 := cell_obj (i := 2) o1 rfl
  have f2 := free_obj (i := 2) o1
  have a3 := cell_obj (i := 3) o1 rfl
  have f3 := free_obj (i := 3) o1
  have a4 := cell_obj (i := 4) o1 rfl
  have f4 := free_obj (i := 4) o1
  have a5 := cell_obj (i := 5) o1 rfl
  have f5 := free_obj (i := 5) o1
  have b0 := cell_obj (i := 0) o2 rfl
  have g0 := free_obj (i := 0) o2
  have b1 := cell_obj (i := 1) o2 rfl
  have g1 := free_obj (i := 1) o2
  have b2 := cell_obj (i := 2) o2 rfl
  have g2 := free_obj (i := 2) o2
  have b3 := cell_obj (i := 3) o2 rfl
  have g3 := free_obj (i := 3) o2
  have b4 := cell_obj (i := 4) o2 rfl
  have g4 := free_obj (i := 4) o2
  have b5 := cell_obj (i := 5) o2 rfl
  have g5 := free_obj (i := 5) o2
  clear o1 o2
  go_wp2_with (with_reducible first | refine stop_append ?_ | refine stop_copy ?_ | refine stop_make ?_ | refine stop_lookup ?_ | refine stop_update ?_ | refine stop_slice ?_ | refine stop_range ?_ | refine stop_next ?_ | refine stop_convert ⟨_, rfl⟩ ?_ | refine stop_convertB ⟨_, _, _, rfl⟩ ?_ | refine stop_eqSlice ⟨_, _, rfl⟩ ?_)
  refine bodyPost_ret (v := .agg #[.int .i64 n, .int .i64 kd, .slice An cut.length cn, .int .i64 tag, .int .i64 t, .int .i64 u]) (by simp [results, Try.results58, go_sem, *]) rfl ?_
  obtain ⟨-, kF⟩ := sset6 o4 (.int .i64 n) (.int .i64 kd) (.slice An cut.length cn) (.int .i64 tag) (.int .i64 t) (.int .i64 u)
  have hq := He5.out
  refine ⟨_, rfl, (hc13.old k3 (fun i h => by simp only [At] at h; omega)).old kF (fun i h => by simp only [At] at h; omega), ?_⟩
  exact ((Hsn.out.weak (G := fun i => Lt w.heap.size i ∨ At w.heap.size i ∨ At q i) (fun i _ g => by simp only [At, Lt] at g ⊢; have := hq2.out; omega)).keep (k3.weak (fun _ _ g => .inr (.inl g)))).keep (kF.weak (fun _ _ g => .inr (.inr g))) |>.weak (fun _ _ g => .inl g)
set_option maxRecDepth 100000 in
set_option maxHeartbeats 1000000 in
theorem qall_any (v : Value) (l : List Ent) (w : World) (h : Sl No w v l) (hl : l.length ≤ 2199023255488) (hcb : ∀ e ∈ l, e.2.2.1.length ≤ 1000000) :
    Calls Try.prog 39 #[v] w fun e w' => ∃ v', e = .returned v' ∧ Chg No w w' ∧ Sl (Lt w.heap.size) w' v' l := by
  obtain ⟨A, c, rfl⟩ := h.slice
  have H := Lib.hid h
  have Hcb := Lib.hid hcb
  clear h hcb
  go_enter Try.func39, Try.ntmps39
  go_wp2_with (with_reducible first | refine stop_append ?_ | refine stop_copy ?_ | refine stop_make ?_ | refine stop_lookup ?_ | refine stop_update ?_ | refine stop_slice ?_ | refine stop_range ?_ | refine stop_next ?_ | refine stop_convert ⟨_, rfl⟩ ?_ | refine stop_convertB ⟨_, _, _, rfl⟩ ?_ | refine stop_eqSlice ⟨_, _, rfl⟩ ?_)
  go_loopw [3, 5, 8] (fun v3 _ v8 wr => ∃ k : Nat, k ≤ l.length ∧ v8 = .int .i64 k ∧ Chg No w wr ∧ Cb.Own (Lt w.heap.size) wr w.heap.size 76 v3 (l.take k)) (fun _ _ v8 _ => l.length - (intOf v8).toNat)
  case atStart => exact ⟨0, by omega, rfl, Chg.refl _ _, Cb.Own.nil _ _ _ _⟩
  case round =>
    obtain ⟨k, hk, rfl, hc1, hown⟩ := hrel
    by_cases hlt : k < l.length
    · have hgs : Sl (Ge w.heap.size) wr (.slice A l.length c) l := (Sl.up H.out (Nat.le_refl _)).keepNo hc1
      obtain ⟨b, o, vc, rfl, hnb, hbl, hsv, a0, a1, a2, a3, a4, a5⟩ := ent_get hgs k hlt
      have htk := List.take_succ_eq_append_getElem hlt
      have hcl := Hcb.out _ (List.getElem_mem hlt)
      clear hgs
      generalize l[k] = x at a0 a1 a2 a3 a4 a5 hsv htk hcl
      obtain ⟨n, kd, cut, tag, t, u⟩ := x
      simp only at a0 a1 a2 a3 a4 a5 hcl hsv
      obtain ⟨Av, cv, rfl⟩ := hsv.slice
      have hlen : (l.take k).length = k := by simp; omega
      generalize l.take k = acc at hlen htk hown
      have Htk := Lib.hid htk
      have Hlen := Lib.hid hlen
      obtain ⟨A3, c3, rfl⟩ := hown.slice
      have Hown := Lib.hid hown
      clear hown htk hlen
      have hca := (Chg.refl No wr).alloc (.cells #[.int .i64 n, .int .i64 kd, .slice Av cut.length cv, .int .i64 tag, .int .i64 t, .int .i64 u] 76)
      have ho := alloc_obj wr (.cells #[.int .i64 n, .int .i64 kd, .slice Av cut.length cv, .int .i64 tag, .int .i64 t, .int .i64 u] 76)
      have y0 := cell_obj (i := 0) ho rfl
      have y1 := cell_obj (i := 1) ho rfl
      have y2 := cell_obj (i := 2) ho rfl
      have y3 := cell_obj (i := 3) ho rfl
      have y4 := cell_obj (i := 4) ho rfl
      have y5 := cell_obj (i := 5) ho rfl
      have Hcop := Lib.hid (qcopied_any _ (n, kd, cut, tag, t, u) (.slice Av cut.length cv) (wr.alloc (.cells #[.int .i64 n, .int .i64 kd, .slice Av cut.length cv, .int .i64 tag, .int .i64 t, .int .i64 u] 76)) (hsv.keepNo hca) hcl)
      unfold entV at Hcop
      clear hsv ho
      go_wp2_with (with_reducible first | refine stop_append ?_ | refine stop_copy ?_ | refine stop_make ?_ | refine stop_lookup ?_ | refine stop_update ?_ | refine stop_slice ?_ | refine stop_range ?_ | refine stop_next ?_ | refine stop_convert ⟨_, rfl⟩ ?_ | refine stop_convertB ⟨_, _, _, rfl⟩ ?_ | refine stop_eqSlice ⟨_, _, rfl⟩ ?_)
      refine Hcop.out.mono ?_
      rintro e w5 ⟨vn, rfl, hc5, hsn⟩
      try simp only at hsn
      obtain ⟨An, cn, rfl⟩ := hsn.slice
      have hc15 := hca.trans hc5
      have hobl : ∀ i, OB (.slice A3 acc.length c3) i → w.heap.size ≤ i ∧ i < wr.heap.size := fun i hi => Hown.out.lt i hi
      have hw1 := hc1.size
      have hwa := hca.size
      have hsn5 : Sl (Or (Lt w.heap.size) (OB (.slice A3 acc.length c3))) w5 (.slice An cut.length cn) cut := hsn.weak (fun i _ hi => by
        rcases hi with hi | hi
        · simp only [Lt] at hi ⊢; omega
        · have := hobl i hi; simp only [Lt]; omega)
      have hc67 := (Chg.refl No w5).alloc (.cells #[.int .i64 n, .int .i64 kd, .slice An cut.length cn, .int .i64 tag, .int .i64 t, .int .i64 u] 76)
      have hlit : Sl (Or (Lt w.heap.size) (OB (.slice A3 acc.length c3))) (w5.alloc (.cells #[.int .i64 n, .int .i64 kd, .slice An cut.length cn, .int .i64 tag, .int .i64 t, .int .i64 u] 76)) (.slice (some ⟨w5.heap.size, 0, none⟩) 1 1) [(n, kd, cut, tag, t, u)] :=
        Sl.lit1 rfl (ent_mk (n, kd, cut, tag, t, u) hsn5) (fun hi => by
          have := hc15.size
          rcases hi with hi | hi
          · simp only [Lt] at hi; omega
          · have := hobl _ hi; omega)
      clear hsn hsn5 y0 y1 y2 y3 y4 y5 Hcop
      go_wp2_with (with_reducible first | refine stop_append ?_ | refine stop_copy ?_ | refine stop_make ?_ | refine stop_lookup ?_ | refine stop_update ?_ | refine stop_slice ?_ | refine stop_range ?_ | refine stop_next ?_ | refine stop_convert ⟨_, rfl⟩ ?_ | refine stop_convertB ⟨_, _, _, rfl⟩ ?_ | refine stop_eqSlice ⟨_, _, rfl⟩ ?_)
      refine step_append_sl (α := Ent) (F := Lt w.heap.size) (G := Or (Lt w.heap.size) (OB (.slice A3 acc.length c3))) Try.underlying43 info_ent rfl (Hown.out.keep (hc15.trans hc67) (fun _ _ f => f.elim) (fun _ _ f => f)) rfl rfl hlit (fun i _ => id) (by have := Hlen.out; simp; omega) (by have := Hlen.out; simp; omega) (by have := (hc15.trans hc67).size; omega) ?_
      intro v6 w8 hown6 hg6
      rw [← Htk.out] at hown6
      have hcw : Chg No w w8 := ((hc1.trans hc15).trans hc67).grew hg6 (fun i hi => .inr (hobl i hi).1)
      have Hown6 := Lib.hid hown6
      clear hown6 hg6 hlit
      go_wp2_with (with_reducible first | refine stop_append ?_ | refine stop_copy ?_ | refine stop_make ?_ | refine stop_lookup ?_ | refine stop_update ?_ | refine stop_slice ?_ | refine stop_range ?_ | refine stop_next ?_ | refine stop_convert ⟨_, rfl⟩ ?_ | refine stop_convertB ⟨_, _, _, rfl⟩ ?_ | refine stop_eqSlice ⟨_, _, rfl⟩ ?_)
      go_roundw
      case rel => exact ⟨k + 1, by omega, by go_num, hcw, Hown6.out⟩
      case measure => simp [intOf]; omega
    · obtain rfl : k = l.length := by omega
      rw [List.take_length] at hown
      have Hown := Lib.hid hown
      obtain ⟨A3, c3, rfl⟩ := hown.slice
      clear hown
      go_wp2_with (with_reducible first | refine stop_append ?_ | refine stop_copy ?_ | refine stop_make ?_ | refine stop_lookup ?_ | refine stop_update ?_ | refine stop_slice ?_ | refine stop_range ?_ | refine stop_next ?_ | refine stop_convert ⟨_, rfl⟩ ?_ | refine stop_convertB ⟨_, _, _, rfl⟩ ?_ | refine stop_eqSlice ⟨_, _, rfl⟩ ?_)
      go_ret
      exact ⟨_, rfl, hc1, Hown.out.sl (fun i hi f => by have := (Hown.out.lt i hi).1; simp only [Lt] at f; omega)⟩
end Go.Proofs.Yticimjplegbagaa


/- Walks of package vector: Min, Same, Gain, Set. -/
set_option linter.unusedVariables false
set_option linter.unusedSimpArgs false
namespace Go.Proofs.Yticimjplegbagaa
open Go.RowKit Cb

def sameB (xs ys : List Int) : Bool := kindB xs ys && decide (xs = ys)
theorem vsame_any (F G : Nat → Prop) (v u : Value) (xs ys : List Int) (w : World) (hs : Sl F w v xs) (ht : Sl G w u ys) (hl : xs.length * 8 ≤ 140737488355328) (hl' : ys.length * 8 ≤ 140737488355328) :
    Calls Try.prog 51 #[v, u] w fun e w' => e = .returned (.bool (sameB xs ys)) ∧ Chg No w w' := by
  have Hk := Lib.hid (vkind_any F G v u xs ys w hs ht hl hl')
  have He := Lib.hid (fun W (hW : Chg No w W) (h8 : xs.length ≤ 1000000) => vequal_any F G v u xs ys W (hs.keepNo hW) (ht.keepNo hW) h8 (by omega))
  obtain ⟨A, c, rfl, hc, _⟩ := id hs
  obtain ⟨B, d, rfl, hd, _⟩ := id ht
  clear hs ht
  cases hk : kindB xs ys with
  | false =>
    have Hr := Lib.hid (show sameB xs ys = false by simp [sameB, hk])
    rw [hk] at Hk
    clear hk
    go_enter Try.func51, Try.ntmps51
    go_wp2_with (with_reducible first | refine stop_append ?_ | refine stop_copy ?_ | refine stop_make ?_ | refine stop_lookup ?_ | refine stop_update ?_ | refine stop_slice ?_ | refine stop_range ?_ | refine stop_next ?_ | refine stop_convert ⟨_, rfl⟩ ?_ | refine stop_convertB ⟨_, _, _, rfl⟩ ?_ | refine stop_eqSlice ⟨_, _, rfl⟩ ?_)
    refine Hk.out.mono ?_
    rintro e w1 ⟨rfl, hc1⟩
    go_wp2_with (with_reducible first | refine stop_append ?_ | refine stop_copy ?_ | refine stop_make ?_ | refine stop_lookup ?_ | refine stop_update ?_ | refine stop_slice ?_ | refine stop_range ?_ | refine stop_next ?_ | refine stop_convert ⟨_, rfl⟩ ?_ | refine stop_convertB ⟨_, _, _, rfl⟩ ?_ | refine stop_eqSlice ⟨_, _, rfl⟩ ?_)
    go_ret
    rw [Hr.out]; exact ⟨rfl, hc1⟩
  | true =>
    have Hr := Lib.hid (show sameB xs ys = decide (xs = ys) by simp [sameB, hk])
    obtain ⟨⟨h1, -⟩, -⟩ : (vright xs = true ∧ vright ys = true) ∧ xs.length = ys.length := by simpa [kindB] using hk
    have h8 := (vright_iff.1 h1).2.1
    rw [hk] at Hk
    clear hk h1
    go_enter Try.func51, Try.ntmps51
    go_wp2_with (with_reducible first | refine stop_append ?_ | refine stop_copy ?_ | refine stop_make ?_ | refine stop_lookup ?_ | refine stop_update ?_ | refine stop_slice ?_ | refine stop_range ?_ | refine stop_next ?_ | refine stop_convert ⟨_, rfl⟩ ?_ | refine stop_convertB ⟨_, _, _, rfl⟩ ?_ | refine stop_eqSlice ⟨_, _, rfl⟩ ?_)
    refine Hk.out.mono ?_
    rintro e w1 ⟨rfl, hc1⟩
    go_wp2_with (with_reducible first | refine stop_append ?_ | refine stop_copy ?_ | refine stop_make ?_ | refine stop_lookup ?_ | refine stop_update ?_ | refine stop_slice ?_ | refine stop_range ?_ | refine stop_next ?_ | refine stop_convert ⟨_, rfl⟩ ?_ | refine stop_convertB ⟨_, _, _, rfl⟩ ?_ | refine stop_eqSlice ⟨_, _, rfl⟩ ?_)
    refine (He.out _ hc1 (by omega)).mono ?_
    rintro e w2 ⟨rfl, hc2⟩
    go_wp2_with (with_reducible first | refine stop_append ?_ | refine stop_copy ?_ | refine stop_make ?_ | refine stop_lookup ?_ | refine stop_update ?_ | refine stop_slice ?_ | refine stop_range ?_ | refine stop_next ?_ | refine stop_convert ⟨_, rfl⟩ ?_ | refine stop_convertB ⟨_, _, _, rfl⟩ ?_ | refine stop_eqSlice ⟨_, _, rfl⟩ ?_)
    go_ret
    rw [Hr.out]; exact ⟨rfl, hc1.trans hc2⟩
end Go.Proofs.Yticimjplegbagaa


/- A primary and a sealer in memory; walks of package quorum: New, NewSealer. -/
set_option linter.unusedVariables false
set_option linter.unusedSimpArgs false
namespace Go.Proofs.Yticimjplegbagaa
open Go.RowKit Cb

structure PSt where
  t : Int
  n : Nat
  need : Nat
  nodes : List Int
  l : List Ent
  last : List Int
  m : List (Int × Int)
  sealed : Bool
structure SSt where
  nodes : List Int
  need : Nat
  m : List Int
  tail : List Ent
/-- S, and all blocks that came since. -/
def Upq (S : Nat → Prop) (w w' : World) : Nat → Prop := fun k => S k ∨ (w.heap.size ≤ k ∧ k < w'.heap.size)
theorem qown_weak {α : Type} [Rep α] {F G : Nat → Prop} {w : World} {base : Nat} {T : TypeId} {v : Value} {xs : List α} (h : Cb.Own F w base T v xs) (hG : ∀ b, b < w.heap.size → G b → F b) : Cb.Own G w base T v xs := by
  obtain ⟨ds, hl, hd, ho⟩ := h
  exact ⟨ds, hl, fun i hi hi' => Rep.weak (hd i hi hi') (fun b hb g => g.imp (hG b hb) id), ho⟩
structure PriV (w : World) (S : Nat → Prop) (p r : Nat) (vn vl vz : Value) (st : PSt) : Prop where
  obj : w.heap[p]? = some (.cells #[.int .i64 st.t, .int .i64 st.n, .int .i64 st.need, vn, vl, vz, .map (some r), .bool st.sealed] 101 (0, 0))
  map : MapAt w r (Value.int .i64) (Value.int .i64) st.m
  hS : ∀ k, S k → k < w.heap.size
  hp : S p
  hr : S r
  hpr : p ≠ r
  nodes : Sl (fun k => ¬ S k ∨ k = p ∨ k = r ∨ OB vl k) w vn st.nodes
  last : Sl (fun k => ¬ S k ∨ k = p ∨ k = r ∨ OB vl k) w vz st.last
  l : Cb.Own (fun k => ¬ S k ∨ k = p ∨ k = r) w 0 76 vl st.l
  ol : ∀ k, OB vl k → S k ∧ k ≠ p ∧ k ≠ r
/-- A primary whose blocks lie in S. -/
def Pri (w : World) (S : Nat → Prop) (p : Nat) (st : PSt) : Prop := ∃ r vn vl vz, PriV w S p r vn vl vz st
structure SeaV (w : World) (S : Nat → Prop) (p r : Nat) (vn vt : Value) (st : SSt) : Prop where
  obj : w.heap[p]? = some (.cells #[vn, .int .i64 st.need, .map (some r), vt] 88 (0, 0))
  map : MapAt w r (Value.int .i64) Value.bool (st.m.map fun x => (x, true))
  hS : ∀ k, S k → k < w.heap.size
  hp : S p
  hr : S r
  hpr : p ≠ r
  nodes : Sl (fun k => ¬ S k ∨ k = p ∨ k = r) w vn st.nodes
  tail : Sl (fun k => ¬ S k ∨ k = p ∨ k = r) w vt st.tail
def Sea (w : World) (S : Nat → Prop) (p : Nat) (st : SSt) : Prop := ∃ r vn vt, SeaV w S p r vn vt st
section
variable {w w' : World} {S T G : Nat → Prop} {p r : Nat} {vn vl vz vt : Value} {st : PSt} {ss : SSt}
theorem PriV.keep (h : PriV w S p r vn vl vz st) (hc : Chg G w w') (hG : ∀ k, k < w.heap.size → G k → ¬ S k) : PriV w' S p r vn vl vz st where
  obj := hc.obj h.obj (fun g => hG p (h.hS p h.hp) g h.hp)
  map := h.map.keep hc (fun g => hG r (h.hS r h.hr) g h.hr)
  hS := fun k hk => Nat.lt_of_lt_of_le (h.hS k hk) hc.size
  hp := h.hp
  hr := h.hr
  hpr := h.hpr
  nodes := h.nodes.keep (hc.weak (fun k hk g => .inl (hG k hk g)))
  last := h.last.keep (hc.weak (fun k hk g => .inl (hG k hk g)))
  l := h.l.keep (hc.weak (G := fun k => ¬ S k) (fun k hk g => hG k hk g)) (fun k _ g => .inl g) (fun k hk g => g (h.ol k hk).1)
  ol := h.ol
theorem PriV.keepNo (h : PriV w S p r vn vl vz st) (hc : Chg No w w') : PriV w' S p r vn vl vz st := h.keep hc (fun _ _ f => f.elim)
theorem Pri.keep (h : Pri w S p st) (hc : Chg G w w') (hG : ∀ k, k < w.heap.size → G k → ¬ S k) : Pri w' S p st := by
  obtain ⟨r, vn, vl, vz, h⟩ := h; exact ⟨r, vn, vl, vz, h.keep hc hG⟩
theorem Pri.keepNo (h : Pri w S p st) (hc : Chg No w w') : Pri w' S p st := h.keep hc (fun _ _ f => f.elim)
theorem Pri.lt (h : Pri w S p st) : ∀ k, S k → k < w.heap.size := by obtain ⟨r, vn, vl, vz, h⟩ := h; exact h.hS
theorem PriV.more (h : PriV w S p r vn vl vz st) (hT : ∀ k, S k → T k) (hw : ∀ k, T k → k < w.heap.size) : PriV w T p r vn vl vz st where
  obj := h.obj
  map := h.map
  hS := hw
  hp := hT p h.hp
  hr := hT r h.hr
  hpr := h.hpr
  nodes := h.nodes.weak (fun k _ g => g.imp (fun g s => g (hT k s)) id)
  last := h.last.weak (fun k _ g => g.imp (fun g s => g (hT k s)) id)
  l := qown_weak h.l (fun k _ g => g.imp (fun g s => g (hT k s)) id)
  ol := fun k hk => ⟨hT k (h.ol k hk).1, (h.ol k hk).2⟩
theorem Pri.more (h : Pri w S p st) (hT : ∀ k, S k → T k) (hw : ∀ k, T k → k < w.heap.size) : Pri w T p st := by
  obtain ⟨r, vn, vl, vz, h⟩ := h; exact ⟨r, vn, vl, vz, h.more hT hw⟩
theorem SeaV.keep (h : SeaV w S p r vn vt ss) (hc : Chg G w w') (hG : ∀ k, k < w.heap.size → G k → ¬ S k) : SeaV w' S p r vn vt ss where
  obj := hc.obj h.obj (fun g => hG p (h.hS p h.hp) g h.hp)
  map := h.map.keep hc (fun g => hG r (h.hS r h.hr) g h.hr)
  hS := fun k hk => Nat.lt_of_lt_of_le (h.hS k hk) hc.size
  hp := h.hp
  hr := h.hr
  hpr := h.hpr
  nodes := h.nodes.keep (hc.weak (fun k hk g => .inl (hG k hk g)))
  tail := h.tail.keep (hc.weak (fun k hk g => .inl (hG k hk g)))
theorem SeaV.keepNo (h : SeaV w S p r vn vt ss) (hc : Chg No w w') : SeaV w' S p r vn vt ss := h.keep hc (fun _ _ f => f.elim)
theorem Sea.keep (h : Sea w S p ss) (hc : Chg G w w') (hG : ∀ k, k < w.heap.size → G k → ¬ S k) : Sea w' S p ss := by
  obtain ⟨r, vn, vt, h⟩ := h; exact ⟨r, vn, vt, h.keep hc hG⟩
theorem Sea.keepNo (h : Sea w S p ss) (hc : Chg No w w') : Sea w' S p ss := h.keep hc (fun _ _ f => f.elim)
theorem Sea.lt (h : Sea w S p ss) : ∀ k, S k → k < w.heap.size := by obtain ⟨r, vn, vt, h⟩ := h; exact h.hS
theorem SeaV.more (h : SeaV w S p r vn vt ss) (hT : ∀ k, S k → T k) (hw : ∀ k, T k → k < w.heap.size) : SeaV w T p r vn vt ss where
  obj := h.obj
  map := h.map
  hS := hw
  hp := hT p h.hp
  hr := hT r h.hr
  hpr := h.hpr
  nodes := h.nodes.weak (fun k _ g => g.imp (fun g s => g (hT k s)) id)
  tail := h.tail.weak (fun k _ g => g.imp (fun g s => g (hT k s)) id)
theorem Sea.more (h : Sea w S p ss) (hT : ∀ k, S k → T k) (hw : ∀ k, T k → k < w.heap.size) : Sea w T p ss := by
  obtain ⟨r, vn, vt, h⟩ := h; exact ⟨r, vn, vt, h.more hT hw⟩
end

set_option maxRecDepth 100000 in
set_option maxHeartbeats 1000000 in
theorem snew_no (t : Int) (vq vs : Value) (q : List Int) (s : List (List Int)) (w : World) (hq : Sl No w vq q) (hs : Sl No w vs s) (hlq : q.length * 8 ≤ 140737488351232) (hls : s.length ≤ 17592186044416) (hb : ∀ x ∈ s, x.length * 8 ≤ 140737488351232) (hr : rightC t q s = false) :
    Calls Try.prog 10 #[cfgV t vq vs] w fun e w' => e = .returned (.tuple #[.pointer none, .int .i64 1]) ∧ Chg No w w' := by
  obtain ⟨Aq, cq, rfl⟩ := hq.slice
  obtain ⟨As, cs, rfl⟩ := hs.slice
  have hca := (Chg.refl No w).alloc (.cells #[.int .i64 t, .slice Aq q.length cq, .slice As s.length cs] 36)
  have o1 := alloc_obj w (.cells #[.int .i64 t, .slice Aq q.length cq, .slice As s.length cs] 36)
  have Hr := Lib.hid (tright_any No No t _ _ q s _ (hq.keepNo hca) (hs.keepNo hca) hlq hls hb)
  rw [hr] at Hr
  unfold cfgV at *
  have a0 := cell_obj (i := 0) o1 rfl
  have a1 := cell_obj (i := 1) o1 rfl
  have a2 := cell_obj (i := 2) o1 rfl
  clear hq hs hb hr
  go_enter Try.func10, Try.ntmps10
  go_wp2_with (with_reducible first | refine stop_append ?_ | refine stop_copy ?_ | refine stop_make ?_ | refine stop_lookup ?_ | refine stop_update ?_ | refine stop_slice ?_ | refine stop_range ?_ | refine stop_next ?_ | refine stop_convert ⟨_, rfl⟩ ?_ | refine stop_convertB ⟨_, _, _, rfl⟩ ?_ | refine stop_eqSlice ⟨_, _, rfl⟩ ?_)
  refine Hr.out.mono ?_
  rintro e w1 ⟨rfl, hc1⟩
  have hcw1 := hca.trans hc1
  go_wp2_with (with_reducible first | refine stop_append ?_ | refine stop_copy ?_ | refine stop_make ?_ | refine stop_lookup ?_ | refine stop_update ?_ | refine stop_slice ?_ | refine stop_range ?_ | refine stop_next ?_ | refine stop_convert ⟨_, rfl⟩ ?_ | refine stop_convertB ⟨_, _, _, rfl⟩ ?_ | refine stop_eqSlice ⟨_, _, rfl⟩ ?_)
  go_ret2
  exact ⟨rfl, hcw1⟩
set_option maxRecDepth 100000 in
set_option maxHeartbeats 4000000 in
theorem pnew_yes (t : Int) (vq vs : Value) (q : List Int) (s : List (List Int)) (w : World) (hq : Sl No w vq q) (hs : Sl No w vs s) (hr : rightC t q s = true) :
    Calls Try.prog 22 #[cfgV t vq vs] w fun e w' => ∃ p, e = .returned (.tuple #[.pointer (some ⟨p, 0, none⟩), .int .i64 0]) ∧ Chg No w w' ∧ Pri w' (fun k => w.heap.size ≤ k ∧ k < w'.heap.size) p ⟨t, s.length, q.length / 2 + 1, q, [], List.replicate s.length 0, [], false⟩ := by
  obtain ⟨_, ⟨_, h7⟩, ⟨h1s, h8⟩, _, hall⟩ := rightC_iff.1 hr
  have h3 : ∀ x ∈ s, x.length ≤ 3 := fun x hx => by
    have := hall x hx
    simp only [shardB, Bool.and_eq_true, decide_eq_true_eq] at this
    exact this.1.2
  obtain ⟨Aq, cq, rfl⟩ := hq.slice
  obtain ⟨As, cs, rfl⟩ := hs.slice
  have hca := (Chg.refl No w).alloc (.cells #[.int .i64 t, .slice Aq q.length cq, .slice As s.length cs] 36)
  have o1 := alloc_obj w (.cells #[.int .i64 t, .slice Aq q.length cq, .slice As s.length cs] 36)
  have Hr := Lib.hid (tright_any No No t _ _ q s _ (hq.keepNo hca) (hs.keepNo hca) (by omega) (by omega) (fun x hx => by have := h3 x hx; omega))
  rw [hr] at Hr
  have Hcl := Lib.hid (fun W (hW : Chg No w W) => vclone_any No (.slice Aq q.length cq) q W (hq.keepNo hW) (by omega))
  have Hmj := Lib.hid (fun W (hW : Chg No w W) => majority_any t (.slice Aq q.length cq) (.slice As s.length cs) q W (hq.keepNo hW) ⟨As, s.length, cs, rfl⟩ (by omega))
  have Hz := Lib.hid (fun W => vzero_yes s.length W h1s h8)
  obtain ⟨nd, hnd⟩ : ∃ nd : Nat, nd = q.length / 2 + 1 := ⟨_, rfl⟩
  rw [← hnd]
  simp only [show ((q.length / 2 : Nat) : Int) + 1 = (nd : Int) by omega] at Hmj
  unfold cfgV at *
  have a0 := cell_obj (i := 0) o1 rfl
  have a1 := cell_obj (i := 1) o1 rfl
  have a2 := cell_obj (i := 2) o1 rfl
  have Hsz := Lib.hid (show w.heap.size < (w.alloc (.cells #[.int .i64 t, .slice Aq q.length cq, .slice As s.length cs] 36)).heap.size by simp)
  clear hq hs h3 hall hr hnd o1
  have hmm := @run_makeMap Try.prog
  go_enter Try.func22, Try.ntmps22
  go_wp2_with (with_reducible first | refine stop_append ?_ | refine stop_copy ?_ | refine stop_make ?_ | refine stop_lookup ?_ | refine stop_update ?_ | refine stop_slice ?_ | refine stop_range ?_ | refine stop_next ?_ | refine stop_convert ⟨_, rfl⟩ ?_ | refine stop_convertB ⟨_, _, _, rfl⟩ ?_ | refine stop_eqSlice ⟨_, _, rfl⟩ ?_)
  generalize w.alloc (.cells #[.int .i64 t, .slice Aq q.length cq, .slice As s.length cs] 36) = w0 at *
  refine Hr.out.mono ?_
  rintro e w1 ⟨rfl, hc1⟩
  have hcw1 := hca.trans hc1
  replace a0 := hc1.cell a0 (not_no _)
  replace a1 := hc1.cell a1 (not_no _)
  replace a2 := hc1.cell a2 (not_no _)
  have Hs1 := Lib.hid hc1.size
  go_wp2_with (with_reducible first | refine stop_append ?_ | refine stop_copy ?_ | refine stop_make ?_ | refine stop_lookup ?_ | refine stop_update ?_ | refine stop_slice ?_ | refine stop_range ?_ | refine stop_next ?_ | refine stop_convert ⟨_, rfl⟩ ?_ | refine stop_convertB ⟨_, _, _, rfl⟩ ?_ | refine stop_eqSlice ⟨_, _, rfl⟩ ?_)
  obtain ⟨b, hb⟩ : ∃ b, b = w.heap.size := ⟨_, rfl⟩
  rw [← hb] at a0 a1 a2 ⊢
  have Hb := Lib.hid hb
  clear hb
  have HS := Lib.hid (show ∀ W, Chg No w1 W → (fun W => W.cell? ⟨b, 0, none⟩ = some (.int .i64 t) ∧ W.cell? ⟨b, 1, none⟩ = some (.slice Aq q.length cq) ∧ W.cell? ⟨b, 2, none⟩ = some (.slice As s.length cs)) W from fun W hW => ⟨hW.cell a0 (not_no _), hW.cell a1 (not_no _), hW.cell a2 (not_no _)⟩)
  have cu0 := (Chg.refl No w1).drew
  clear a0 a1 a2 Hr hca hc1
  refine rt_start (fun W => W.cell? ⟨b, 0, none⟩ = some (.int .i64 t) ∧ W.cell? ⟨b, 1, none⟩ = some (.slice Aq q.length cq) ∧ W.cell? ⟨b, 2, none⟩ = some (.slice As s.length cs)) (by kernel_rfl) ?_
  iterate 11 ((refine rt_nx [] (v := ?_) rfl (by kernel_rfl) (fun _ _ _ h => h) rfl ?_ ?_; rotate_left; focus (intro W hW; (try dsimp only at hW); go_split_ands; go_simp; (try (simp (disch := omega) only [IntWalk.i64_in]; (try go_simp))); (try (split; (next => omega); (try go_simp))); try rfl; done)); try simp only [Act.put, List.setIfInBounds_toArray, List.set_cons_zero, List.set_cons_succ, Nat.reduceAdd])
  refine rt_two (i := 6) (j := 14) (oi := { dst := some 13, op := .call { callee := .value (.func 32), args := #[.tmp 12], argTypes := #[36] }, type := 3, pos := "quorum.go:50", after := #[{ on := 5, ground := .data }], guard := none }) (oj := { dst := some 21, op := .makeMap 99 none, type := 99, pos := "quorum.go:50", after := #[], guard := none }) (by kernel_rfl) (HS.out _ cu0) rfl rfl rfl rfl (fun K hK => ?_) (fun K hK => ?_)
  rotate_left
  focus
    go_simp
    refine hK _ _ ?_
    clear hK K
    try simp only [Act.put, List.setIfInBounds_toArray, List.set_cons_zero, List.set_cons_succ]
    have hx1 : Chg No w1 (w1.alloc (.map #[] 0)).drew := ((Chg.refl No w1).alloc (.map #[] 0)).drew
    have hm := (MapAt.made w1 (Value.int .i64) (Value.int .i64)).keep ((Chg.refl No (w1.alloc (.map #[] 0))).drew) (not_no _)
    have cu1 : Chg No w1 (w1.alloc (.map #[] 0)).drew := hx1
    have hr1 : w.heap.size < w1.heap.size := by have := Hsz.out; have := Hs1.out; have := (Chg.refl No w1).size; omega
    have hr2 : w1.heap.size < (w1.alloc (.map #[] 0)).drew.heap.size := by simp
    generalize (w1.alloc (.map #[] 0)).drew = y1 at *
    generalize w1.heap.size = r at *
    clear hx1
    refine rt_kx (fun W => W.cell? ⟨b, 0, none⟩ = some (.int .i64 t) ∧ W.cell? ⟨b, 1, none⟩ = some (.slice Aq q.length cq) ∧ W.cell? ⟨b, 2, none⟩ = some (.slice As s.length cs)) 6 (by kernel_rfl) (HS.out _ cu1) (fun _ h => h) rfl (by rfl) (fun K hK => ?_)
    go_simp
    refine (Hmj.out _ (hcw1.trans cu1)).mono ?_
    rintro e x2 ⟨rfl, hx2⟩
    have cu2 := cu1.trans hx2
    replace hm := hm.keep hx2 (not_no _)
    have hs2 := hx2.size
    replace hr2 : r < x2.heap.size := by omega
    clear hx2 hs2
    refine hK _ _ ?_
    clear hK K
    try simp only [Act.put, List.setIfInBounds_toArray, List.set_cons_zero, List.set_cons_succ]
    refine rt_kx (fun W => W.cell? ⟨b, 0, none⟩ = some (.int .i64 t) ∧ W.cell? ⟨b, 1, none⟩ = some (.slice Aq q.length cq) ∧ W.cell? ⟨b, 2, none⟩ = some (.slice As s.length cs)) 9 (by kernel_rfl) (HS.out _ cu2) (fun _ h => h) rfl (by rfl) (fun K hK => ?_)
    go_simp
    refine (Hcl.out _ (hcw1.trans cu2)).mono ?_
    rintro e x3 ⟨vn, rfl, hx3, hn⟩
    obtain ⟨An, cn, rfl⟩ := hn.slice
    have cu3 := cu2.trans hx3
    replace hm := hm.keep hx3 (not_no _)
    have hs3 := hx3.size
    replace hn := hn.weak (G := fun k => k < w.heap.size ∨ k = r) (fun k hk g => by have := (hcw1.trans cu2).size; simp only [Lt]; rcases g with g | g <;> omega)
    replace hr2 : r < x3.heap.size := by omega
    clear hx3 hs3
    refine hK _ _ ?_
    clear hK K
    try simp only [Act.put, List.setIfInBounds_toArray, List.set_cons_zero, List.set_cons_succ]
    refine rt_kx (fun W => W.cell? ⟨b, 0, none⟩ = some (.int .i64 t) ∧ W.cell? ⟨b, 1, none⟩ = some (.slice Aq q.length cq) ∧ W.cell? ⟨b, 2, none⟩ = some (.slice As s.length cs)) 13 (by kernel_rfl) (HS.out _ cu3) (fun _ h => h) rfl (by rfl) (fun K hK => ?_)
    go_simp
    refine (Hz.out _).mono ?_
    rintro e x4 ⟨az, cz, rfl, hx4, hz⟩
    have cu4 := cu3.trans hx4
    replace hn := hn.keepNo hx4
    replace hm := hm.keep hx4 (not_no _)
    have hs4 := hx4.size
    replace hz := hz.weak (G := fun k => k < w.heap.size ∨ k = r) (fun k hk g => by have := (hcw1.trans cu3).size; simp only [Lt]; rcases g with g | g <;> omega)
    replace hr2 : r < x4.heap.size := by omega
    clear hx4 hs4
    refine hK _ _ ?_
    clear hK K
    try simp only [Act.put, List.setIfInBounds_toArray, List.set_cons_zero, List.set_cons_succ]
    ((refine rt_nx [] (v := ?_) rfl (by kernel_rfl) (fun _ _ _ h => h) rfl ?_ ?_; rotate_left; focus (intro W hW; (try dsimp only at hW); go_split_ands; go_simp; (try (simp (disch := omega) only [IntWalk.i64_in]; (try go_simp))); (try (split; (next => omega); (try go_simp))); try rfl; done)); try simp only [Act.put, List.setIfInBounds_toArray, List.set_cons_zero, List.set_cons_succ, Nat.reduceAdd])
    have cuE := cu4
    obtain ⟨wE, rfl⟩ : ∃ W : World, W = x4 := ⟨_, rfl⟩
  rotate_left
  focus
    go_simp
    refine (Hmj.out _ (hcw1.trans cu0)).mono ?_
    rintro e x5 ⟨rfl, hx5⟩
    have cu5 := cu0.trans hx5
    clear hx5
    refine hK _ _ ?_
    clear hK K
    try simp only [Act.put, List.setIfInBounds_toArray, List.set_cons_zero, List.set_cons_succ]
    refine rt_two (i := 9) (j := 14) (oi := { dst := some 16, op := .call { callee := .value (.func 31), args := #[.tmp 15], argTypes := #[22] }, type := 22, pos := "quorum.go:50", after := #[{ on := 8, ground := .data }, { on := 6, ground := .chain }], guard := none }) (oj := { dst := some 21, op := .makeMap 99 none, type := 99, pos := "quorum.go:50", after := #[], guard := none }) (by kernel_rfl) (HS.out _ cu5) rfl rfl rfl rfl (fun K hK => ?_) (fun K hK => ?_)
    rotate_left
    focus
      go_simp
      refine hK _ _ ?_
      clear hK K
      try simp only [Act.put, List.setIfInBounds_toArray, List.set_cons_zero, List.set_cons_succ]
      have hx6 : Chg No x5 (x5.alloc (.map #[] 0)) := ((Chg.refl No x5).alloc (.map #[] 0))
      have hm := (MapAt.made x5 (Value.int .i64) (Value.int .i64))
      have cu6 : Chg No w1 (x5.alloc (.map #[] 0)) := cu5.trans hx6
      have hr1 : w.heap.size < x5.heap.size := by have := Hsz.out; have := Hs1.out; have := (cu5).size; omega
      have hr2 : x5.heap.size < (x5.alloc (.map #[] 0)).heap.size := by simp
      generalize (x5.alloc (.map #[] 0)) = y6 at *
      generalize x5.heap.size = r at *
      clear hx6
      refine rt_kx (fun W => W.cell? ⟨b, 0, none⟩ = some (.int .i64 t) ∧ W.cell? ⟨b, 1, none⟩ = some (.slice Aq q.length cq) ∧ W.cell? ⟨b, 2, none⟩ = some (.slice As s.length cs)) 9 (by kernel_rfl) (HS.out _ cu6) (fun _ h => h) rfl (by rfl) (fun K hK => ?_)
      go_simp
      refine (Hcl.out _ (hcw1.trans cu6)).mono ?_
      rintro e x7 ⟨vn, rfl, hx7, hn⟩
      obtain ⟨An, cn, rfl⟩ := hn.slice
      have cu7 := cu6.trans hx7
      replace hm := hm.keep hx7 (not_no _)
      have hs7 := hx7.size
      replace hn := hn.weak (G := fun k => k < w.heap.size ∨ k = r) (fun k hk g => by have := (hcw1.trans cu6).size; simp only [Lt]; rcases g with g | g <;> omega)
      replace hr2 : r < x7.heap.size := by omega
      clear hx7 hs7
      refine hK _ _ ?_
      clear hK K
      try simp only [Act.put, List.setIfInBounds_toArray, List.set_cons_zero, List.set_cons_succ]
      refine rt_kx (fun W => W.cell? ⟨b, 0, none⟩ = some (.int .i64 t) ∧ W.cell? ⟨b, 1, none⟩ = some (.slice Aq q.length cq) ∧ W.cell? ⟨b, 2, none⟩ = some (.slice As s.length cs)) 13 (by kernel_rfl) (HS.out _ cu7) (fun _ h => h) rfl (by rfl) (fun K hK => ?_)
      go_simp
      refine (Hz.out _).mono ?_
      rintro e x8 ⟨az, cz, rfl, hx8, hz⟩
      have cu8 := cu7.trans hx8
      replace hn := hn.keepNo hx8
      replace hm := hm.keep hx8 (not_no _)
      have hs8 := hx8.size
      replace hz := hz.weak (G := fun k => k < w.heap.size ∨ k = r) (fun k hk g => by have := (hcw1.trans cu7).size; simp only [Lt]; rcases g with g | g <;> omega)
      replace hr2 : r < x8.heap.size := by omega
      clear hx8 hs8
      refine hK _ _ ?_
      clear hK K
      try simp only [Act.put, List.setIfInBounds_toArray, List.set_cons_zero, List.set_cons_succ]
      ((refine rt_nx [] (v := ?_) rfl (by kernel_rfl) (fun _ _ _ h => h) rfl ?_ ?_; rotate_left; focus (intro W hW; (try dsimp only at hW); go_split_ands; go_simp; (try (simp (disch := omega) only [IntWalk.i64_in]; (try go_simp))); (try (split; (next => omega); (try go_simp))); try rfl; done)); try simp only [Act.put, List.setIfInBounds_toArray, List.set_cons_zero, List.set_cons_succ, Nat.reduceAdd])
      have cuE := cu8
      obtain ⟨wE, rfl⟩ : ∃ W : World, W = x8 := ⟨_, rfl⟩
    rotate_left
    focus
      go_simp
      refine (Hcl.out _ (hcw1.trans cu5)).mono ?_
      rintro e x9 ⟨vn, rfl, hx9, hn⟩
      obtain ⟨An, cn, rfl⟩ := hn.slice
      have cu9 := cu5.trans hx9
      replace hn := hn.weak (G := fun k => k < w.heap.size) (fun k hk g => by have := (hcw1.trans cu5).size; simp only [Lt]; omega)
      clear hx9
      refine hK _ _ ?_
      clear hK K
      try simp only [Act.put, List.setIfInBounds_toArray, List.set_cons_zero, List.set_cons_succ]
      refine rt_two (i := 13) (j := 14) (oi := { dst := some 20, op := .call { callee := .value (.func 44), args := #[.tmp 19], argTypes := #[3] }, type := 22, pos := "quorum.go:50", after := #[{ on := 12, ground := .data }, { on := 9, ground := .chain }], guard := none }) (oj := { dst := some 21, op := .makeMap 99 none, type := 99, pos := "quorum.go:50", after := #[], guard := none }) (by kernel_rfl) (HS.out _ cu9) rfl rfl rfl rfl (fun K hK => ?_) (fun K hK => ?_)
      rotate_left
      focus
        go_simp
        refine hK _ _ ?_
        clear hK K
        try simp only [Act.put, List.setIfInBounds_toArray, List.set_cons_zero, List.set_cons_succ]
        have hx10 : Chg No x9 (x9.alloc (.map #[] 0)) := ((Chg.refl No x9).alloc (.map #[] 0))
        have hm := (MapAt.made x9 (Value.int .i64) (Value.int .i64))
        have cu10 : Chg No w1 (x9.alloc (.map #[] 0)) := cu9.trans hx10
        have hr1 : w.heap.size < x9.heap.size := by have := Hsz.out; have := Hs1.out; have := (cu9).size; omega
        have hr2 : x9.heap.size < (x9.alloc (.map #[] 0)).heap.size := by simp
        replace hn := (hn.weak (G := fun k => k < w.heap.size ∨ k = x9.heap.size) (fun k hk g => by rcases g with g | g <;> omega)).keepNo hx10
        generalize (x9.alloc (.map #[] 0)) = y10 at *
        generalize x9.heap.size = r at *
        clear hx10
        refine rt_kx (fun W => W.cell? ⟨b, 0, none⟩ = some (.int .i64 t) ∧ W.cell? ⟨b, 1, none⟩ = some (.slice Aq q.length cq) ∧ W.cell? ⟨b, 2, none⟩ = some (.slice As s.length cs)) 13 (by kernel_rfl) (HS.out _ cu10) (fun _ h => h) rfl (by rfl) (fun K hK => ?_)
        go_simp
        refine (Hz.out _).mono ?_
        rintro e x11 ⟨az, cz, rfl, hx11, hz⟩
        have cu11 := cu10.trans hx11
        replace hn := hn.keepNo hx11
        replace hm := hm.keep hx11 (not_no _)
        have hs11 := hx11.size
        replace hz := hz.weak (G := fun k => k < w.heap.size ∨ k = r) (fun k hk g => by have := (hcw1.trans cu10).size; simp only [Lt]; rcases g with g | g <;> omega)
        replace hr2 : r < x11.heap.size := by omega
        clear hx11 hs11
        refine hK _ _ ?_
        clear hK K
        try simp only [Act.put, List.setIfInBounds_toArray, List.set_cons_zero, List.set_cons_succ]
        ((refine rt_nx [] (v := ?_) rfl (by kernel_rfl) (fun _ _ _ h => h) rfl ?_ ?_; rotate_left; focus (intro W hW; (try dsimp only at hW); go_split_ands; go_simp; (try (simp (disch := omega) only [IntWalk.i64_in]; (try go_simp))); (try (split; (next => omega); (try go_simp))); try rfl; done)); try simp only [Act.put, List.setIfInBounds_toArray, List.set_cons_zero, List.set_cons_succ, Nat.reduceAdd])
        have cuE := cu11
        obtain ⟨wE, rfl⟩ : ∃ W : World, W = x11 := ⟨_, rfl⟩
      rotate_left
      focus
        go_simp
        refine (Hz.out _).mono ?_
        rintro e x12 ⟨az, cz, rfl, hx12, hz⟩
        have cu12 := cu9.trans hx12
        replace hn := hn.keepNo hx12
        replace hz := hz.weak (G := fun k => k < w.heap.size) (fun k hk g => by have := (hcw1.trans cu9).size; simp only [Lt]; omega)
        clear hx12
        refine hK _ _ ?_
        clear hK K
        try simp only [Act.put, List.setIfInBounds_toArray, List.set_cons_zero, List.set_cons_succ]
        refine rt_kx (fun W => W.cell? ⟨b, 0, none⟩ = some (.int .i64 t) ∧ W.cell? ⟨b, 1, none⟩ = some (.slice Aq q.length cq) ∧ W.cell? ⟨b, 2, none⟩ = some (.slice As s.length cs)) 14 (by kernel_rfl) (HS.out _ cu12) (fun _ h => h) rfl (by rfl) (fun K hK => ?_)
        go_simp
        refine hK _ _ ?_
        clear hK K
        try simp only [Act.put, List.setIfInBounds_toArray, List.set_cons_zero, List.set_cons_succ]
        ((refine rt_nx [] (v := ?_) rfl (by kernel_rfl) (fun _ _ _ h => h) rfl ?_ ?_; rotate_left; focus (intro W hW; (try dsimp only at hW); go_split_ands; go_simp; (try (simp (disch := omega) only [IntWalk.i64_in]; (try go_simp))); (try (split; (next => omega); (try go_simp))); try rfl; done)); try simp only [Act.put, List.setIfInBounds_toArray, List.set_cons_zero, List.set_cons_succ, Nat.reduceAdd])
        have hx13 : Chg No x12 (x12.alloc (.map #[] 0)) := ((Chg.refl No x12).alloc (.map #[] 0))
        have hm := (MapAt.made x12 (Value.int .i64) (Value.int .i64))
        have cu13 : Chg No w1 (x12.alloc (.map #[] 0)) := cu12.trans hx13
        have hr1 : w.heap.size < x12.heap.size := by have := Hsz.out; have := Hs1.out; have := (cu12).size; omega
        have hr2 : x12.heap.size < (x12.alloc (.map #[] 0)).heap.size := by simp
        replace hn := (hn.weak (G := fun k => k < w.heap.size ∨ k = x12.heap.size) (fun k hk g => by rcases g with g | g <;> omega)).keepNo hx13
        replace hz := (hz.weak (G := fun k => k < w.heap.size ∨ k = x12.heap.size) (fun k hk g => by rcases g with g | g <;> omega)).keepNo hx13
        generalize (x12.alloc (.map #[] 0)) = y13 at *
        generalize x12.heap.size = r at *
        clear hx13
        have cuE := cu13
        obtain ⟨wE, rfl⟩ : ∃ W : World, W = y13 := ⟨_, rfl⟩
  all_goals
    refine rt_kx (fun W => W.cell? ⟨b, 0, none⟩ = some (.int .i64 t) ∧ W.cell? ⟨b, 1, none⟩ = some (.slice Aq q.length cq) ∧ W.cell? ⟨b, 2, none⟩ = some (.slice As s.length cs)) 16 (by kernel_rfl) (HS.out _ cuE) (fun _ h => h) rfl (by rfl) (fun K hK => ?_)
    go_simp
    refine hK _ _ ?_
    clear hK K
    try simp only [Act.put, List.setIfInBounds_toArray, List.set_cons_zero, List.set_cons_succ]
    ((refine rt_nx [18] (v := ?_) rfl (by kernel_rfl) (fun _ _ _ h => h) rfl ?_ ?_; rotate_left; focus (intro W hW; (try dsimp only at hW); go_split_ands; go_simp; (try (simp (disch := omega) only [IntWalk.i64_in]; (try go_simp))); (try (split; (next => omega); (try go_simp))); try rfl; done)); try simp only [Act.put, List.setIfInBounds_toArray, List.set_cons_zero, List.set_cons_succ, Nat.reduceAdd])
    replace hn := hn.weak (G := fun k => k < w.heap.size ∨ k = wE.heap.size ∨ k = r) (fun k hk g => by rcases g with g | g | g; exact .inl g; omega; exact .inr g)
    replace hz := hz.weak (G := fun k => k < w.heap.size ∨ k = wE.heap.size ∨ k = r) (fun k hk g => by rcases g with g | g | g; exact .inl g; omega; exact .inr g)
    have o8 := alloc_obj wE (.cells #[.int .i64 t, .int .i64 s.length, .int .i64 nd, .slice An q.length cn, .slice none 0 0, .slice (some az) s.length cz, .map (some r), .bool false] 101)
    have c8 := (Chg.refl No wE).alloc (.cells #[.int .i64 t, .int .i64 s.length, .int .i64 nd, .slice An q.length cn, .slice none 0 0, .slice (some az) s.length cz, .map (some r), .bool false] 101)
    have z8 : (wE.alloc (.cells #[.int .i64 t, .int .i64 s.length, .int .i64 nd, .slice An q.length cn, .slice none 0 0, .slice (some az) s.length cz, .map (some r), .bool false] 101)).heap.size = wE.heap.size + 1 := by simp
    generalize wE.alloc (.cells #[.int .i64 t, .int .i64 s.length, .int .i64 nd, .slice An q.length cn, .slice none 0 0, .slice (some az) s.length cz, .map (some r), .bool false] 101) = w8 at *
    replace hm := hm.keep c8 (not_no _)
    replace hn := hn.keepNo c8
    replace hz := hz.keepNo c8
    have cF := cuE.trans c8
    refine rt_kx (fun W => W.cell? ⟨b, 0, none⟩ = some (.int .i64 t) ∧ W.cell? ⟨b, 1, none⟩ = some (.slice Aq q.length cq) ∧ W.cell? ⟨b, 2, none⟩ = some (.slice As s.length cs)) 18 (by kernel_rfl) (HS.out _ cF) (fun _ h => h) rfl (by rfl) (fun K hK => ?_)
    go_simp
    refine hK _ _ ?_
    clear hK K
    try simp only [Act.put, List.setIfInBounds_toArray, List.set_cons_zero, List.set_cons_succ]
    refine rt_done (by kernel_rfl)  ?_
    have Hm := Lib.hid hm; have Hn := Lib.hid hn; have Hzz := Lib.hid hz; have O8 := Lib.hid o8; have HF := Lib.hid cF
    have Hr1 := Lib.hid hr1; have Hr2 := Lib.hid hr2; have Z8 := Lib.hid z8; have C1 := Lib.hid (hcw1.trans cuE).size
    clear hm hn o8 cF hr1 hr2 z8 cuE HS Hcl Hmj c8 hz Hz
    go_wp2_with (with_reducible first | refine stop_append ?_ | refine stop_copy ?_ | refine stop_make ?_ | refine stop_lookup ?_ | refine stop_update ?_ | refine stop_slice ?_ | refine stop_range ?_ | refine stop_next ?_ | refine stop_convert ⟨_, rfl⟩ ?_ | refine stop_convertB ⟨_, _, _, rfl⟩ ?_ | refine stop_eqSlice ⟨_, _, rfl⟩ ?_)
    go_ret2
    have hr1 := Hr1.out; have hr2 := Hr2.out; have z8 := Z8.out; have hs1 := C1.out
    refine ⟨_, rfl, hcw1.trans HF.out, r, _, _, _, { obj := O8.out, map := Hm.out, hS := fun k hk => hk.2, hp := ⟨by omega, by omega⟩, hr := ⟨by omega, by omega⟩, hpr := by omega, nodes := Hn.out.weak (fun k hk g => ?_), last := Hzz.out.weak (fun k hk g => ?_), l := Cb.Own.nil _ _ _ _, ol := fun k hk => by simp [OB, Value.ownBlock] at hk }⟩
    all_goals
      rcases g with g | g | g | g
      · exact .inl (by omega)
      · exact .inr (.inl g)
      · exact .inr (.inr g)
      · simp [OB, Value.ownBlock] at g
set_option maxRecDepth 100000 in
set_option maxHeartbeats 4000000 in
theorem snew_yes (t : Int) (vq vs : Value) (q : List Int) (s : List (List Int)) (w : World) (hq : Sl No w vq q) (hs : Sl No w vs s) (hr : rightC t q s = true) :
    Calls Try.prog 10 #[cfgV t vq vs] w fun e w' => ∃ p, e = .returned (.tuple #[.pointer (some ⟨p, 0, none⟩), .int .i64 0]) ∧ Chg No w w' ∧ Sea w' (fun k => w.heap.size ≤ k ∧ k < w'.heap.size) p ⟨q, q.length / 2 + 1, [], []⟩ := by
  obtain ⟨_, ⟨_, h7⟩, ⟨h1s, h8⟩, _, hall⟩ := rightC_iff.1 hr
  have h3 : ∀ x ∈ s, x.length ≤ 3 := fun x hx => by
    have := hall x hx
    simp only [shardB, Bool.and_eq_true, decide_eq_true_eq] at this
    exact this.1.2
  obtain ⟨Aq, cq, rfl⟩ := hq.slice
  obtain ⟨As, cs, rfl⟩ := hs.slice
  have hca := (Chg.refl No w).alloc (.cells #[.int .i64 t, .slice Aq q.length cq, .slice As s.length cs] 36)
  have o1 := alloc_obj w (.cells #[.int .i64 t, .slice Aq q.length cq, .slice As s.length cs] 36)
  have Hr := Lib.hid (tright_any No No t _ _ q s _ (hq.keepNo hca) (hs.keepNo hca) (by omega) (by omega) (fun x hx => by have := h3 x hx; omega))
  rw [hr] at Hr
  have Hcl := Lib.hid (fun W (hW : Chg No w W) => vclone_any No (.slice Aq q.length cq) q W (hq.keepNo hW) (by omega))
  have Hmj := Lib.hid (fun W (hW : Chg No w W) => majority_any t (.slice Aq q.length cq) (.slice As s.length cs) q W (hq.keepNo hW) ⟨As, s.length, cs, rfl⟩ (by omega))
  have Hz := Lib.hid (fun W => vzero_yes s.length W h1s h8)
  obtain ⟨nd, hnd⟩ : ∃ nd : Nat, nd = q.length / 2 + 1 := ⟨_, rfl⟩
  rw [← hnd]
  simp only [show ((q.length / 2 : Nat) : Int) + 1 = (nd : Int) by omega] at Hmj
  unfold cfgV at *
  have a0 := cell_obj (i := 0) o1 rfl
  have a1 := cell_obj (i := 1) o1 rfl
  have a2 := cell_obj (i := 2) o1 rfl
  have Hsz := Lib.hid (show w.heap.size < (w.alloc (.cells #[.int .i64 t, .slice Aq q.length cq, .slice As s.length cs] 36)).heap.size by simp)
  clear hq hs h3 hall hr hnd o1
  have hmm := @run_makeMap Try.prog
  go_enter Try.func10, Try.ntmps10
  go_wp2_with (with_reducible first | refine stop_append ?_ | refine stop_copy ?_ | refine stop_make ?_ | refine stop_lookup ?_ | refine stop_update ?_ | refine stop_slice ?_ | refine stop_range ?_ | refine stop_next ?_ | refine stop_convert ⟨_, rfl⟩ ?_ | refine stop_convertB ⟨_, _, _, rfl⟩ ?_ | refine stop_eqSlice ⟨_, _, rfl⟩ ?_)
  generalize w.alloc (.cells #[.int .i64 t, .slice Aq q.length cq, .slice As s.length cs] 36) = w0 at *
  refine Hr.out.mono ?_
  rintro e w1 ⟨rfl, hc1⟩
  have hcw1 := hca.trans hc1
  replace a0 := hc1.cell a0 (not_no _)
  replace a1 := hc1.cell a1 (not_no _)
  replace a2 := hc1.cell a2 (not_no _)
  have Hs1 := Lib.hid hc1.size
  go_wp2_with (with_reducible first | refine stop_append ?_ | refine stop_copy ?_ | refine stop_make ?_ | refine stop_lookup ?_ | refine stop_update ?_ | refine stop_slice ?_ | refine stop_range ?_ | refine stop_next ?_ | refine stop_convert ⟨_, rfl⟩ ?_ | refine stop_convertB ⟨_, _, _, rfl⟩ ?_ | refine stop_eqSlice ⟨_, _, rfl⟩ ?_)
  obtain ⟨b, hb⟩ : ∃ b, b = w.heap.size := ⟨_, rfl⟩
  rw [← hb] at a0 a1 a2 ⊢
  have Hb := Lib.hid hb
  clear hb
  have HS := Lib.hid (show ∀ W, Chg No w1 W → (fun W => W.cell? ⟨b, 0, none⟩ = some (.int .i64 t) ∧ W.cell? ⟨b, 1, none⟩ = some (.slice Aq q.length cq) ∧ W.cell? ⟨b, 2, none⟩ = some (.slice As s.length cs)) W from fun W hW => ⟨hW.cell a0 (not_no _), hW.cell a1 (not_no _), hW.cell a2 (not_no _)⟩)
  have cu0 := (Chg.refl No w1).drew
  clear a0 a1 a2 Hr hca hc1
  refine rt_start (fun W => W.cell? ⟨b, 0, none⟩ = some (.int .i64 t) ∧ W.cell? ⟨b, 1, none⟩ = some (.slice Aq q.length cq) ∧ W.cell? ⟨b, 2, none⟩ = some (.slice As s.length cs)) (by kernel_rfl) ?_
  iterate 3 ((refine rt_nx [] (v := ?_) rfl (by kernel_rfl) (fun _ _ _ h => h) rfl ?_ ?_; rotate_left; focus (intro W hW; (try dsimp only at hW); go_split_ands; go_simp; (try (simp (disch := omega) only [IntWalk.i64_in]; (try go_simp))); (try (split; (next => omega); (try go_simp))); try rfl; done)); try simp only [Act.put, List.setIfInBounds_toArray, List.set_cons_zero, List.set_cons_succ, Nat.reduceAdd])
  refine rt_two (i := 2) (j := 5) (oi := { dst := some 9, op := .call { callee := .value (.func 31), args := #[.tmp 8], argTypes := #[22] }, type := 22, pos := "quorum.go:133", after := #[{ on := 1, ground := .data }], guard := none }) (oj := { dst := some 12, op := .makeMap 86 none, type := 86, pos := "quorum.go:133", after := #[], guard := none }) (by kernel_rfl) (HS.out _ cu0) rfl rfl rfl rfl (fun K hK => ?_) (fun K hK => ?_)
  rotate_left
  focus
    go_simp
    refine hK _ _ ?_
    clear hK K
    try simp only [Act.put, List.setIfInBounds_toArray, List.set_cons_zero, List.set_cons_succ]
    have hx1 : Chg No w1 (w1.alloc (.map #[] 0)).drew := ((Chg.refl No w1).alloc (.map #[] 0)).drew
    have hm := (MapAt.made w1 (Value.int .i64) (Value.bool)).keep ((Chg.refl No (w1.alloc (.map #[] 0))).drew) (not_no _)
    have cu1 : Chg No w1 (w1.alloc (.map #[] 0)).drew := hx1
    have hr1 : w.heap.size < w1.heap.size := by have := Hsz.out; have := Hs1.out; have := (Chg.refl No w1).size; omega
    have hr2 : w1.heap.size < (w1.alloc (.map #[] 0)).drew.heap.size := by simp
    generalize (w1.alloc (.map #[] 0)).drew = y1 at *
    generalize w1.heap.size = r at *
    clear hx1
    refine rt_kx (fun W => W.cell? ⟨b, 0, none⟩ = some (.int .i64 t) ∧ W.cell? ⟨b, 1, none⟩ = some (.slice Aq q.length cq) ∧ W.cell? ⟨b, 2, none⟩ = some (.slice As s.length cs)) 2 (by kernel_rfl) (HS.out _ cu1) (fun _ h => h) rfl (by rfl) (fun K hK => ?_)
    go_simp
    refine (Hcl.out _ (hcw1.trans cu1)).mono ?_
    rintro e x2 ⟨vn, rfl, hx2, hn⟩
    obtain ⟨An, cn, rfl⟩ := hn.slice
    have cu2 := cu1.trans hx2
    replace hm := hm.keep hx2 (not_no _)
    have hs2 := hx2.size
    replace hn := hn.weak (G := fun k => k < w.heap.size ∨ k = r) (fun k hk g => by have := (hcw1.trans cu1).size; simp only [Lt]; rcases g with g | g <;> omega)
    replace hr2 : r < x2.heap.size := by omega
    clear hx2 hs2
    refine hK _ _ ?_
    clear hK K
    try simp only [Act.put, List.setIfInBounds_toArray, List.set_cons_zero, List.set_cons_succ]
    refine rt_kx (fun W => W.cell? ⟨b, 0, none⟩ = some (.int .i64 t) ∧ W.cell? ⟨b, 1, none⟩ = some (.slice Aq q.length cq) ∧ W.cell? ⟨b, 2, none⟩ = some (.slice As s.length cs)) 4 (by kernel_rfl) (HS.out _ cu2) (fun _ h => h) rfl (by rfl) (fun K hK => ?_)
    go_simp
    refine (Hmj.out _ (hcw1.trans cu2)).mono ?_
    rintro e x3 ⟨rfl, hx3⟩
    have cu3 := cu2.trans hx3
    replace hn := hn.keepNo hx3
    replace hm := hm.keep hx3 (not_no _)
    have hs3 := hx3.size
    replace hr2 : r < x3.heap.size := by omega
    clear hx3 hs3
    refine hK _ _ ?_
    clear hK K
    try simp only [Act.put, List.setIfInBounds_toArray, List.set_cons_zero, List.set_cons_succ]
    ((refine rt_nx [] (v := ?_) rfl (by kernel_rfl) (fun _ _ _ h => h) rfl ?_ ?_; rotate_left; focus (intro W hW; (try dsimp only at hW); go_split_ands; go_simp; (try (simp (disch := omega) only [IntWalk.i64_in]; (try go_simp))); (try (split; (next => omega); (try go_simp))); try rfl; done)); try simp only [Act.put, List.setIfInBounds_toArray, List.set_cons_zero, List.set_cons_succ, Nat.reduceAdd])
    have cuE := cu3
    obtain ⟨wE, rfl⟩ : ∃ W : World, W = x3 := ⟨_, rfl⟩
  rotate_left
  focus
    go_simp
    refine (Hcl.out _ (hcw1.trans cu0)).mono ?_
    rintro e x4 ⟨vn, rfl, hx4, hn⟩
    obtain ⟨An, cn, rfl⟩ := hn.slice
    have cu4 := cu0.trans hx4
    replace hn := hn.weak (G := fun k => k < w.heap.size) (fun k hk g => by have := (hcw1.trans cu0).size; simp only [Lt]; omega)
    clear hx4
    refine hK _ _ ?_
    clear hK K
    try simp only [Act.put, List.setIfInBounds_toArray, List.set_cons_zero, List.set_cons_succ]
    refine rt_two (i := 4) (j := 5) (oi := { dst := some 11, op := .call { callee := .value (.func 32), args := #[.tmp 10], argTypes := #[36] }, type := 3, pos := "quorum.go:133", after := #[{ on := 3, ground := .data }, { on := 2, ground := .chain }], guard := none }) (oj := { dst := some 12, op := .makeMap 86 none, type := 86, pos := "quorum.go:133", after := #[], guard := none }) (by kernel_rfl) (HS.out _ cu4) rfl rfl rfl rfl (fun K hK => ?_) (fun K hK => ?_)
    rotate_left
    focus
      go_simp
      refine hK _ _ ?_
      clear hK K
      try simp only [Act.put, List.setIfInBounds_toArray, List.set_cons_zero, List.set_cons_succ]
      have hx5 : Chg No x4 (x4.alloc (.map #[] 0)) := ((Chg.refl No x4).alloc (.map #[] 0))
      have hm := (MapAt.made x4 (Value.int .i64) (Value.bool))
      have cu5 : Chg No w1 (x4.alloc (.map #[] 0)) := cu4.trans hx5
      have hr1 : w.heap.size < x4.heap.size := by have := Hsz.out; have := Hs1.out; have := (cu4).size; omega
      have hr2 : x4.heap.size < (x4.alloc (.map #[] 0)).heap.size := by simp
      replace hn := (hn.weak (G := fun k => k < w.heap.size ∨ k = x4.heap.size) (fun k hk g => by rcases g with g | g <;> omega)).keepNo hx5
      generalize (x4.alloc (.map #[] 0)) = y5 at *
      generalize x4.heap.size = r at *
      clear hx5
      refine rt_kx (fun W => W.cell? ⟨b, 0, none⟩ = some (.int .i64 t) ∧ W.cell? ⟨b, 1, none⟩ = some (.slice Aq q.length cq) ∧ W.cell? ⟨b, 2, none⟩ = some (.slice As s.length cs)) 4 (by kernel_rfl) (HS.out _ cu5) (fun _ h => h) rfl (by rfl) (fun K hK => ?_)
      go_simp
      refine (Hmj.out _ (hcw1.trans cu5)).mono ?_
      rintro e x6 ⟨rfl, hx6⟩
      have cu6 := cu5.trans hx6
      replace hn := hn.keepNo hx6
      replace hm := hm.keep hx6 (not_no _)
      have hs6 := hx6.size
      replace hr2 : r < x6.heap.size := by omega
      clear hx6 hs6
      refine hK _ _ ?_
      clear hK K
      try simp only [Act.put, List.setIfInBounds_toArray, List.set_cons_zero, List.set_cons_succ]
      ((refine rt_nx [] (v := ?_) rfl (by kernel_rfl) (fun _ _ _ h => h) rfl ?_ ?_; rotate_left; focus (intro W hW; (try dsimp only at hW); go_split_ands; go_simp; (try (simp (disch := omega) only [IntWalk.i64_in]; (try go_simp))); (try (split; (next => omega); (try go_simp))); try rfl; done)); try simp only [Act.put, List.setIfInBounds_toArray, List.set_cons_zero, List.set_cons_succ, Nat.reduceAdd])
      have cuE := cu6
      obtain ⟨wE, rfl⟩ : ∃ W : World, W = x6 := ⟨_, rfl⟩
    rotate_left
    focus
      go_simp
      refine (Hmj.out _ (hcw1.trans cu4)).mono ?_
      rintro e x7 ⟨rfl, hx7⟩
      have cu7 := cu4.trans hx7
      replace hn := hn.keepNo hx7
      clear hx7
      refine hK _ _ ?_
      clear hK K
      try simp only [Act.put, List.setIfInBounds_toArray, List.set_cons_zero, List.set_cons_succ]
      refine rt_kx (fun W => W.cell? ⟨b, 0, none⟩ = some (.int .i64 t) ∧ W.cell? ⟨b, 1, none⟩ = some (.slice Aq q.length cq) ∧ W.cell? ⟨b, 2, none⟩ = some (.slice As s.length cs)) 5 (by kernel_rfl) (HS.out _ cu7) (fun _ h => h) rfl (by rfl) (fun K hK => ?_)
      go_simp
      refine hK _ _ ?_
      clear hK K
      try simp only [Act.put, List.setIfInBounds_toArray, List.set_cons_zero, List.set_cons_succ]
      ((refine rt_nx [] (v := ?_) rfl (by kernel_rfl) (fun _ _ _ h => h) rfl ?_ ?_; rotate_left; focus (intro W hW; (try dsimp only at hW); go_split_ands; go_simp; (try (simp (disch := omega) only [IntWalk.i64_in]; (try go_simp))); (try (split; (next => omega); (try go_simp))); try rfl; done)); try simp only [Act.put, List.setIfInBounds_toArray, List.set_cons_zero, List.set_cons_succ, Nat.reduceAdd])
      have hx8 : Chg No x7 (x7.alloc (.map #[] 0)) := ((Chg.refl No x7).alloc (.map #[] 0))
      have hm := (MapAt.made x7 (Value.int .i64) (Value.bool))
      have cu8 : Chg No w1 (x7.alloc (.map #[] 0)) := cu7.trans hx8
      have hr1 : w.heap.size < x7.heap.size := by have := Hsz.out; have := Hs1.out; have := (cu7).size; omega
      have hr2 : x7.heap.size < (x7.alloc (.map #[] 0)).heap.size := by simp
      replace hn := (hn.weak (G := fun k => k < w.heap.size ∨ k = x7.heap.size) (fun k hk g => by rcases g with g | g <;> omega)).keepNo hx8
      generalize (x7.alloc (.map #[] 0)) = y8 at *
      generalize x7.heap.size = r at *
      clear hx8
      have cuE := cu8
      obtain ⟨wE, rfl⟩ : ∃ W : World, W = y8 := ⟨_, rfl⟩
  all_goals
    refine rt_kx (fun W => W.cell? ⟨b, 0, none⟩ = some (.int .i64 t) ∧ W.cell? ⟨b, 1, none⟩ = some (.slice Aq q.length cq) ∧ W.cell? ⟨b, 2, none⟩ = some (.slice As s.length cs)) 7 (by kernel_rfl) (HS.out _ cuE) (fun _ h => h) rfl (by rfl) (fun K hK => ?_)
    go_simp
    refine hK _ _ ?_
    clear hK K
    try simp only [Act.put, List.setIfInBounds_toArray, List.set_cons_zero, List.set_cons_succ]
    ((refine rt_nx [9] (v := ?_) rfl (by kernel_rfl) (fun _ _ _ h => h) rfl ?_ ?_; rotate_left; focus (intro W hW; (try dsimp only at hW); go_split_ands; go_simp; (try (simp (disch := omega) only [IntWalk.i64_in]; (try go_simp))); (try (split; (next => omega); (try go_simp))); try rfl; done)); try simp only [Act.put, List.setIfInBounds_toArray, List.set_cons_zero, List.set_cons_succ, Nat.reduceAdd])
    replace hn := hn.weak (G := fun k => k < w.heap.size ∨ k = wE.heap.size ∨ k = r) (fun k hk g => by rcases g with g | g | g; exact .inl g; omega; exact .inr g)
    have o8 := alloc_obj wE (.cells #[.slice An q.length cn, .int .i64 nd, .map (some r), .slice none 0 0] 88)
    have c8 := (Chg.refl No wE).alloc (.cells #[.slice An q.length cn, .int .i64 nd, .map (some r), .slice none 0 0] 88)
    have z8 : (wE.alloc (.cells #[.slice An q.length cn, .int .i64 nd, .map (some r), .slice none 0 0] 88)).heap.size = wE.heap.size + 1 := by simp
    generalize wE.alloc (.cells #[.slice An q.length cn, .int .i64 nd, .map (some r), .slice none 0 0] 88) = w8 at *
    replace hm := hm.keep c8 (not_no _)
    replace hn := hn.keepNo c8
    have cF := cuE.trans c8
    refine rt_kx (fun W => W.cell? ⟨b, 0, none⟩ = some (.int .i64 t) ∧ W.cell? ⟨b, 1, none⟩ = some (.slice Aq q.length cq) ∧ W.cell? ⟨b, 2, none⟩ = some (.slice As s.length cs)) 9 (by kernel_rfl) (HS.out _ cF) (fun _ h => h) rfl (by rfl) (fun K hK => ?_)
    go_simp
    refine hK _ _ ?_
    clear hK K
    try simp only [Act.put, List.setIfInBounds_toArray, List.set_cons_zero, List.set_cons_succ]
    refine rt_done (by kernel_rfl)  ?_
    have Hm := Lib.hid hm; have Hn := Lib.hid hn; have O8 := Lib.hid o8; have HF := Lib.hid cF
    have Hr1 := Lib.hid hr1; have Hr2 := Lib.hid hr2; have Z8 := Lib.hid z8; have C1 := Lib.hid (hcw1.trans cuE).size
    clear hm hn o8 cF hr1 hr2 z8 cuE HS Hcl Hmj c8
    go_wp2_with (with_reducible first | refine stop_append ?_ | refine stop_copy ?_ | refine stop_make ?_ | refine stop_lookup ?_ | refine stop_update ?_ | refine stop_slice ?_ | refine stop_range ?_ | refine stop_next ?_ | refine stop_convert ⟨_, rfl⟩ ?_ | refine stop_convertB ⟨_, _, _, rfl⟩ ?_ | refine stop_eqSlice ⟨_, _, rfl⟩ ?_)
    go_ret2
    have hr1 := Hr1.out; have hr2 := Hr2.out; have z8 := Z8.out; have hs1 := C1.out
    exact ⟨_, rfl, hcw1.trans HF.out, r, _, _, { obj := O8.out, map := Hm.out, hS := fun k hk => hk.2, hp := ⟨by omega, by omega⟩, hr := ⟨by omega, by omega⟩, hpr := by omega, tail := Sl.nil _ _ _ _, nodes := Hn.out.weak (fun k hk g => by
      rcases g with g | g | g
      · exact .inl (by omega)
      · exact .inr (.inl g)
      · exact .inr (.inr g)) }⟩
end Go.Proofs.Yticimjplegbagaa

